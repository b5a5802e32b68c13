import Derived.Test.YtnhipgmphhndhaaV4
namespace Go.Proofs.Ytnhipgmphhndhaa.Q
open Go.RowKit Go.Proofs.YtnhipgmphhndhaaW.PrintWords Go.Proofs.YtnhipgmphhndhaaW.PrintLast Go.Proofs.YtnhipgmphhndhaaW.PrintMore
set_option linter.unusedVariables false
set_option linter.unusedSectionVars false
set_option linter.unusedSimpArgs false
set_option maxRecDepth 100000
/-! ### (*walker).next, by what the Op is -/
section
variable {w0 W : World} {g : Nat} {fs : List S32} {xs : List Int} {ts : List ByteArray} {lets n : Int} {f : S32}
/-- What next hands back. -/
def NextOut (w0 w1 : World) (u : Value) (b : Bool) : Option (List Tg) → Prop
  | none => b = false
  | some l => b = true ∧ Kd.R k69 69 w1 w0.heap.size (fun _ => True) u (l.map ofT)
theorem neq_func (F : Nat) (caps : Array Value) (W : World) : (binOp .neq 81 (.func (.func F) #[] caps) .nilFunc).run Try.prog W = .ok (.bool true) W := by kernel_rfl
theorem nextOut_none {w0 w1 : World} {u : Value} : NextOut w0 w1 u false none := rfl
theorem neq_nil (W : World) : (binOp .neq 81 .nilFunc .nilFunc).run Try.prog W = .ok (.bool false) W := by kernel_rfl
theorem Built.lookR {w W : World} {g : Nat} {vs : List (Int × Value)} (h : Built w W g vs) (hk : vs.map Prod.fst = [(33 : Int), 32, 31, 25, 24, 23, 20, 19, 18, 17, 15, 14, 13, 12, 11, 10, 9, 8, 7, 6, 5, 4, 3, 2, 1]) (op : Int) (hwf : (Lit.int .i64 op).wf = true) (hm : op ∈ [(33 : Int), 32, 31, 25, 24, 23, 20, 19, 18, 17, 15, 14, 13, 12, 11, 10, 9, 8, 7, 6, 5, 4, 3, 2, 1]) : ∃ v, (Instr.lookup 82 (.map (some g)) (.int .i64 op) false).run Try.prog W = .ok v W ∧ RuleV W v op := by
  obtain ⟨v, h1, ⟨h2, _⟩ | h2⟩ := h.look op hwf
  · rw [hk] at h2
    exact absurd hm h2
  · exact ⟨v, h1, h2⟩
theorem Built.lookN {w W : World} {g : Nat} {vs : List (Int × Value)} (h : Built w W g vs) (op : Int) (hwf : (Lit.int .i64 op).wf = true) (hm : ∀ v, ¬ RuleV W v op) : (Instr.lookup 82 (.map (some g)) (.int .i64 op) false).run Try.prog W = .ok .nilFunc W := by
  obtain ⟨v, h1, ⟨_, rfl⟩ | h2⟩ := h.look op hwf
  · exact h1
  · exact absurd h2 (hm v)
/-! ### a new row of targets -/
theorem R89_new {W W1 : World} {base : Nat} {v : Value} {m : List S89} (h : Kd.R k89 89 W base (fun _ => True) v m) (hb : Below W.heap.size W W1) (g : Nat) (hg : W.heap.size ≤ g) : Kd.R k89 89 W1 base (fun k => True ∧ some k ≠ (Value.slice (some ⟨g, 0, none⟩) 1 1).ownBlock) v m :=
  Kd.R_mono (Kd.R_below (Kd.R_bound h) hb) (fun k hk => ⟨trivial, fun he => by injection he with he; have := hk.2.2.1; simp only at he; omega⟩)
theorem R69_one {W : World} {base g : Nat} (hg : g = W.heap.size) (hb : base ≤ W.heap.size) (x : S69) {v : Value} (h : Kd.R k89 89 W base (fun _ => True) v x.f2) :
    Kd.R k69 69 (W.alloc (.cells #[.int .i64 x.f0, .int .i64 x.f1, v] 69)) base (fun _ => True) (.slice (some ⟨g, 0, none⟩) 1 1) [x] := by
  subst hg
  refine ⟨fun _ _ => trivial, [.int .i64 x.f0, .int .i64 x.f1, v], ⟨rfl, .inr ⟨W.heap.size, 1, _, rfl, hb, blk_new W _, Nat.le_refl _, by unfold maxLen; omega, rfl, rfl⟩⟩, rfl, fun j p hj => ?_⟩
  cases j with
  | zero =>
    obtain rfl : x = p := by simpa using hj
    exact k69_mkM _ _ _ x (R89_new h (below_alloc (Below.refl _ _) _) _ (Nat.le_refl _))
  | succ j => simp at hj
theorem R69_two {W : World} {base g : Nat} (hg : g = W.heap.size) (hb : base ≤ W.heap.size) (x y : S69) {v u : Value} (h : Kd.R k89 89 W base (fun _ => True) v x.f2) (k : Kd.R k89 89 W base (fun _ => True) u y.f2) :
    Kd.R k69 69 (W.alloc (.cells #[.int .i64 x.f0, .int .i64 x.f1, v, .int .i64 y.f0, .int .i64 y.f1, u] 69)) base (fun _ => True) (.slice (some ⟨g, 0, none⟩) 2 2) [x, y] := by
  subst hg
  refine ⟨fun _ _ => trivial, [.int .i64 x.f0, .int .i64 x.f1, v, .int .i64 y.f0, .int .i64 y.f1, u], ⟨rfl, .inr ⟨W.heap.size, 2, _, rfl, hb, blk_new W _, Nat.le_refl _, by unfold maxLen; omega, rfl, rfl⟩⟩, rfl, fun j p hj => ?_⟩
  match j with
  | 0 =>
    obtain rfl : x = p := by simpa using hj
    exact k69_mkM _ _ _ x (R89_new h (below_alloc (Below.refl _ _) _) _ (Nat.le_refl _))
  | 1 =>
    obtain rfl : y = p := by simpa using hj
    exact k69_mkM _ _ _ y (R89_new k (below_alloc (Below.refl _ _) _) _ (Nat.le_refl _))
  | j + 2 => simp at hj
theorem R89_far {W W1 : World} {base : Nat} {v : Value} {m : List S89} (h : Kd.R k89 89 W base (fun _ => True) v m) (hb : Below W.heap.size W W1) : Kd.R k89 89 W1 base (fun _ => True) v m := Kd.R_below h hb
end
end Go.Proofs.Ytnhipgmphhndhaa.Q
namespace Go.Proofs.Ytnhipgmphhndhaa.Q
open Go.RowKit Go.Proofs.YtnhipgmphhndhaaW.PrintWords Go.Proofs.YtnhipgmphhndhaaW.PrintLast Go.Proofs.YtnhipgmphhndhaaW.PrintMore
set_option linter.unusedVariables false
set_option linter.unusedSectionVars false
set_option linter.unusedSimpArgs false
set_option maxRecDepth 100000
/-! ### (*walker).next, by what the Op is -/
section
variable {w0 W : World} {g : Nat} {fs : List S32} {xs : List Int} {ts : List ByteArray} {lets n : Int} {f : S32}
set_option maxHeartbeats 4000000 in
theorem next_14 (hI : IsW w0 W g fs xs ts lets n f) {at_ : Int} (hat : 0 ≤ at_ ∧ at_ < (f.f3.length : Int)) (hl : f.f3.length ≤ 400) (hOk : OkIns (rd_T37 f.f3 at_)) {s : St} (hs : OkS s) (hm : s.m.length ≤ 1000) {v : Value} (hR : Kd.R k89 89 W w0.heap.size (fun _ => True) v s.m)
    (hop : (rd_T37 f.f3 at_).f0 = 14) :
    Calls Try.prog 29 #[.pointer (some ⟨g, 0, none⟩), .int .i64 at_, .agg #[.int .i64 s.d, v]] W fun e w' => Below W.heap.size W w' ∧ ∃ u b, e = .returned (.tuple #[u, .bool b]) ∧
      NextOut w0 w' u b (nx1 fs xs.length ts.length lets n f (rd_T37 f.f3 at_) at_ s) := by
  have hu45 := Try.underlying45
  have hu32 := Try.underlying32
  have hu37 := Try.underlying37
  have hu52 := Try.underlying52
  have hu69 := Try.underlying69
  have hu30 := Try.underlying30
  have HI := Aside0.mk hI
  have HR := Aside0.mk hR
  obtain ⟨hB0, Af, cf, Ax, cx, At, ct, Ac, cc, hg, h1, h2, h3, h4⟩ := hI
  obtain ⟨A, c, rfl, hc, hC⟩ := Kd.R_reads hR
  obtain ⟨ad, e, hx0, hx1, hx2⟩ := at_T37 h4 at_ hat.1 hat.2
  cases e
  have y0 : ∀ o : Obj, (W.alloc o).cell? (ad.add (at_.toNat * 3)) = some (.int .i64 (rd_T37 f.f3 at_).f0) := fun o => ((below_alloc hB0 o).cell (World.block_lt_of_cell? w0 _ hx0)).trans hx0
  have y1 : ∀ o : Obj, (W.alloc o).cell? ⟨(ad.add (at_.toNat * 3)).block, (ad.add (at_.toNat * 3)).off + 1, none⟩ = some (.int .i64 (rd_T37 f.f3 at_).f1) := fun o => ((below_alloc hB0 o).cell (World.block_lt_of_cell? w0 _ hx1)).trans hx1
  have y2 : ∀ o : Obj, (W.alloc o).cell? ⟨(ad.add (at_.toNat * 3)).block, (ad.add (at_.toNat * 3)).off + 2, none⟩ = some (.int .i64 (rd_T37 f.f3 at_).f2) := fun o => ((below_alloc hB0 o).cell (World.block_lt_of_cell? w0 _ hx2)).trans hx2
  have c8 : ∀ o : Obj, (W.alloc o).cell? ⟨g, 8, none⟩ = some (.slice (some ad) f.f3.length cc) := fun o => (blk_cell (blk_alloc hg o) 8).trans rfl
  have p1 : (0 ≤ at_) = True := eq_true hat.1
  have p2 : (at_ < (f.f3.length : Int)) = True := eq_true hat.2
  have HC := Aside0.mk hC
  have HLC := Aside0.mk hc
  have hb0 := bse_ok hs
  have hT := takes_ok hOk
  have hP := puts_ok (rd_T37 f.f3 at_)
  have hwf : (Lit.int .i64 (rd_T37 f.f3 at_).f0).wf = true := WalkArith.wf_i64 (by have := hOk.1; have := hOk.2.1; omega)
  have w1 : IntKind.i64.wrap (s.d - takesI (rd_T37 f.f3 at_)) = s.d - takesI (rd_T37 f.f3 at_) := by rw [i64_w]; exact w64 _ (by have := hs.1; omega) (by have := hs.2.1; omega)
  have w2 : IntKind.i64.wrap (at_ + 1) = at_ + 1 := by rw [i64_w]; exact w64 _ (by have := hat.1; omega) (by have := hat.2; omega)
  have w3 : IntKind.i64.wrap (putsI (rd_T37 f.f3 at_) - takesI (rd_T37 f.f3 at_)) = putsI (rd_T37 f.f3 at_) - takesI (rd_T37 f.f3 at_) := by rw [i64_w]; exact w64 _ (by omega) (by omega)
  have w4 : wrap64 (s.d + (putsI (rd_T37 f.f3 at_) - takesI (rd_T37 f.f3 at_))) = s.d - takesI (rd_T37 f.f3 at_) + putsI (rd_T37 f.f3 at_) := (w64 _ (by have := hs.1; omega) (by have := hs.2.1; omega)).trans (by omega)
  have HM := Aside0.mk hm
  clear hB0 hg h1 h2 h3 h4 hx0 hx1 hx2 hC hc
  generalize hi : rd_T37 f.f3 at_ = i at *
  clear hi
  go_enter Try.func29, Try.ntmps29
  go_wp2
  have HB := Aside0.mk (below_alloc (below_alloc (Below.refl W.heap.size W) (.cells #[.int .i64 s.d, .slice A s.m.length c] 52)) (.cells #[.int .i64 14, .int .i64 i.f1, .int .i64 i.f2] 37))
  have BS := Aside0.mk (blk_alloc (blk_new W (.cells #[.int .i64 s.d, .slice A s.m.length c] 52)) (.cells #[.int .i64 14, .int .i64 i.f1, .int .i64 i.f2] 37))
  have BI := Aside0.mk (blk_new2 W (.cells #[.int .i64 s.d, .slice A s.m.length c] 52) (.cells #[.int .i64 14, .int .i64 i.f1, .int .i64 i.f2] 37))
  clear y0 y1 y2 c8
  generalize (W.alloc (.cells #[.int .i64 s.d, .slice A s.m.length c] 52)).alloc (.cells #[.int .i64 14, .int .i64 i.f1, .int .i64 i.f2] 37) = W2 at HB BS BI ⊢
  have q0 := (blk_cell BI.out 0).trans rfl
  go_region_held3 (fun w' => w'.cell? ⟨W.heap.size + 1, 0, none⟩ = some (.int .i64 14)) (go_keep) (first
    | (go_at_call 37; (with_reducible refine (v_rules _).mono ?_); rintro e w1 ⟨g1, vs, rfl, hbt, hkeys⟩; obtain ⟨vr, hrun, hvr⟩ := hbt.lookR hkeys 14 (by decide) (by decide); have HB1 := Aside0.mk (below_step (below_drew1 HB.out) hbt.1); have BS1 := Aside0.mk (blk_below (blk_drew BS.out) hbt.1); have BI1 := Aside0.mk (blk_below (blk_drew BI.out) hbt.1); have r0 := (blk_cell BI1.out 0).trans rfl; obtain ⟨F, caps, rfl, he, hcl⟩ := (RuleV.ok hvr : RuleOk w0 w1 g fs xs ts lets n f vr 14); have HCL := Aside0.mk hcl; clear hbt hvr hcl hkeys HB BS BI q0))
  have r1 := (blk_cell BI1.out 1).trans rfl
  have r2 := (blk_cell BI1.out 2).trans rfl
  have hne : ∀ W : World, (binOp .neq 81 (.func (.func F) #[] caps) .nilFunc).run Try.prog W = .ok (.bool true) W := fun W => neq_func F caps W
  go_wp2_with fail
  have hcl2 := HCL.out w1 i (fun _ _ _ _ h => h) (HI.out.below HB1.out) hop
  rw [hop] at hcl2
  refine hcl2.mono ?_
  rintro e w2 ⟨rfl, hb⟩
  have HB2 := Aside0.mk (below_step HB1.out hb)
  have BS2 := Aside0.mk (blk_below BS1.out hb)
  have BI2 := Aside0.mk (blk_below BI1.out hb)
  clear hb HB1 BS1 BI1 r0 r1 r2 he hrun hne HCL hcl2
  have E1 := Aside0.mk (show okI fs xs.length ts.length lets n f i = false → nx1 fs xs.length ts.length lets n f i at_ s = none from fun h => by unfold nx1; rw [h]; rfl)
  have E2 := Aside0.mk (show okI fs xs.length ts.length lets n f i = true → s.d - takesI i < bse s.m → nx1 fs xs.length ts.length lets n f i at_ s = none from fun h1 h2 => by unfold nx1; rw [h1, if_pos rfl, if_pos h2])
  have E3 := Aside0.mk (show okI fs xs.length ts.length lets n f i = true → ¬ s.d - takesI i < bse s.m → nx1 fs xs.length ts.length lets n f i at_ s = goI at_ i s from fun h1 h2 => by unfold nx1; rw [h1, if_pos rfl, if_neg h2])
  generalize okI fs xs.length ts.length lets n f i = okb at *
  cases okb
  · go_wp2
    go_ret2
    exact ⟨HB2.out, .slice none 0 0, false, rfl, by rw [E1.out (by simp)]; exact nextOut_none⟩
  have q0 := (blk_cell BS2.out 0).trans rfl
  have q1 := (blk_cell BS2.out 1).trans rfl
  go_wp2
  by_cases hlt : s.d - takesI i < bse s.m
  · have hlt1 := decide_eq_true hlt
    have HLT := Aside0.mk hlt
    clear hlt
    go_region_held3 (fun w' => w'.cell? ⟨W.heap.size, 0, none⟩ = some (.int .i64 s.d) ∧ w'.cell? ⟨W.heap.size, 1, none⟩ = some (.slice A s.m.length c)) (go_keep) (first
      | (go_at_call 38; (with_reducible refine (verify_state_base.calls s.d A c s.m (bse s.m) _ (Kd.C_drew (Kd.C_below HC.out HB2.out)) HLC.out (base_f (by have := HM.out; omega))).mono ?_); rintro e w3 ⟨rfl, hb⟩; have HB3 := Aside0.mk (below_step (below_drew1 HB2.out) hb); have r0 := (blk_cell (blk_below (blk_drew BS2.out) hb) 0).trans rfl; have r1 := (blk_cell (blk_below (blk_drew BS2.out) hb) 1).trans rfl; clear hb))
    go_wp2
    go_ret2
    exact ⟨HB3.out, .slice none 0 0, false, rfl, by rw [E2.out (by simp) HLT.out]; exact nextOut_none⟩
  have hlt1 := decide_eq_false hlt
  have HLT := Aside0.mk hlt
  clear hlt
  go_region_held3 (fun w' => w'.cell? ⟨W.heap.size, 0, none⟩ = some (.int .i64 s.d) ∧ w'.cell? ⟨W.heap.size, 1, none⟩ = some (.slice A s.m.length c)) (go_keep) (first
    | (go_at_call 38; (with_reducible refine (verify_state_base.calls s.d A c s.m (bse s.m) _ (Kd.C_drew (Kd.C_below HC.out HB2.out)) HLC.out (base_f (by have := HM.out; omega))).mono ?_); rintro e w3 ⟨rfl, hb⟩; have HB3 := Aside0.mk (below_step (below_drew1 HB2.out) hb); have BS3 := Aside0.mk (blk_below (blk_drew BS2.out) hb); have BI3 := Aside0.mk (blk_below (blk_drew BI2.out) hb); have r0 := (blk_cell BS3.out 0).trans rfl; have r1 := (blk_cell BS3.out 1).trans rfl; clear hb))
  clear q0 q1
  go_wp2_with (first
    | (go_at_call 39; (with_reducible refine (v_moved _ _ _ _ _ _).mono ?_); rintro e w4 ⟨rfl, hb⟩; have HB4 := Aside0.mk (below_step HB3.out hb); have BS4 := Aside0.mk (blk_below BS3.out hb); have BI4 := Aside0.mk (blk_below BI3.out hb); have u0 : ∀ o : Obj, (w4.alloc o).cell? ⟨W.heap.size + 1, 0, none⟩ = some (.int .i64 14) := fun o => (blk_cell (blk_alloc BI4.out o) 0).trans rfl; have u1 : ∀ o : Obj, (w4.alloc o).cell? ⟨W.heap.size + 1, 1, none⟩ = some (.int .i64 i.f1) := fun o => (blk_cell (blk_alloc BI4.out o) 1).trans rfl; have u2 : ∀ o : Obj, (w4.alloc o).cell? ⟨W.heap.size + 1, 2, none⟩ = some (.int .i64 i.f2) := fun o => (blk_cell (blk_alloc BI4.out o) 2).trans rfl; have v0 : ∀ o : Obj, (w4.alloc o).cell? ⟨W.heap.size, 0, none⟩ = some (.int .i64 s.d) := fun o => (blk_cell (blk_alloc BS4.out o) 0).trans rfl; have v1 : ∀ o : Obj, (w4.alloc o).cell? ⟨W.heap.size, 1, none⟩ = some (.slice A s.m.length c) := fun o => (blk_cell (blk_alloc BS4.out o) 1).trans rfl; clear hb r0 r1))
  have HB5 := Aside0.mk (below_alloc HB4.out (.cells #[.int .i64 (at_ + 1), .int .i64 (s.d - takesI i + putsI i), .slice A s.m.length c] 69))
  have x1 := v1 (.cells #[.int .i64 (at_ + 1), .int .i64 (s.d - takesI i + putsI i), .slice A s.m.length c] 69)
  have x0 := v0 (.cells #[.int .i64 (at_ + 1), .int .i64 (s.d - takesI i + putsI i), .slice A s.m.length c] 69)
  have y0 := u0 (.cells #[.int .i64 (at_ + 1), .int .i64 (s.d - takesI i + putsI i), .slice A s.m.length c] 69)
  have y1 := u1 (.cells #[.int .i64 (at_ + 1), .int .i64 (s.d - takesI i + putsI i), .slice A s.m.length c] 69)
  have y2 := u2 (.cells #[.int .i64 (at_ + 1), .int .i64 (s.d - takesI i + putsI i), .slice A s.m.length c] 69)
  have z0 := (blk_cell (blk_new w4 (.cells #[.int .i64 (at_ + 1), .int .i64 (s.d - takesI i + putsI i), .slice A s.m.length c] 69)) 0).trans rfl
  have z1 := (blk_cell (blk_new w4 (.cells #[.int .i64 (at_ + 1), .int .i64 (s.d - takesI i + putsI i), .slice A s.m.length c] 69)) 1).trans rfl
  have z2 := (blk_cell (blk_new w4 (.cells #[.int .i64 (at_ + 1), .int .i64 (s.d - takesI i + putsI i), .slice A s.m.length c] 69)) 2).trans rfl
  clear u0 u1 u2 v0 v1
  generalize w4.alloc (.cells #[.int .i64 (at_ + 1), .int .i64 (s.d - takesI i + putsI i), .slice A s.m.length c] 69) = w5 at HB5 x0 x1 y0 y1 y2 z0 z1 z2 ⊢
  go_region_held3 (fun w' => w'.cell? ⟨W.heap.size, 1, none⟩ = some (.slice A s.m.length c)) (go_keep) (fail)
  go_wp2
  go_ret2
  refine ⟨below_drew1 HB5.out, .slice none 0 0, ((s.m.length : Int) == 0), rfl, ?_⟩
  rw [E3.out (by simp) HLT.out]
  unfold goI
  rw [if_pos (by simp [hop])]
  by_cases h0 : s.m.length = 0
  · rw [if_pos h0, h0]
    exact ⟨rfl, Kd.R_nil _ _ _ _ _⟩
  · rw [if_neg h0]
    exact beq_eq_false_iff_ne.mpr (by omega)
set_option maxHeartbeats 4000000 in
theorem next_15 (hI : IsW w0 W g fs xs ts lets n f) {at_ : Int} (hat : 0 ≤ at_ ∧ at_ < (f.f3.length : Int)) (hl : f.f3.length ≤ 400) (hOk : OkIns (rd_T37 f.f3 at_)) {s : St} (hs : OkS s) (hm : s.m.length ≤ 1000) {v : Value} (hR : Kd.R k89 89 W w0.heap.size (fun _ => True) v s.m)
    (hop : (rd_T37 f.f3 at_).f0 = 15) :
    Calls Try.prog 29 #[.pointer (some ⟨g, 0, none⟩), .int .i64 at_, .agg #[.int .i64 s.d, v]] W fun e w' => Below W.heap.size W w' ∧ ∃ u b, e = .returned (.tuple #[u, .bool b]) ∧
      NextOut w0 w' u b (nx1 fs xs.length ts.length lets n f (rd_T37 f.f3 at_) at_ s) := by
  have hu45 := Try.underlying45
  have hu32 := Try.underlying32
  have hu37 := Try.underlying37
  have hu52 := Try.underlying52
  have hu69 := Try.underlying69
  have hu30 := Try.underlying30
  have HI := Aside0.mk hI
  have HR := Aside0.mk hR
  obtain ⟨hB0, Af, cf, Ax, cx, At, ct, Ac, cc, hg, h1, h2, h3, h4⟩ := hI
  obtain ⟨A, c, rfl, hc, hC⟩ := Kd.R_reads hR
  obtain ⟨ad, e, hx0, hx1, hx2⟩ := at_T37 h4 at_ hat.1 hat.2
  cases e
  have y0 : ∀ o : Obj, (W.alloc o).cell? (ad.add (at_.toNat * 3)) = some (.int .i64 (rd_T37 f.f3 at_).f0) := fun o => ((below_alloc hB0 o).cell (World.block_lt_of_cell? w0 _ hx0)).trans hx0
  have y1 : ∀ o : Obj, (W.alloc o).cell? ⟨(ad.add (at_.toNat * 3)).block, (ad.add (at_.toNat * 3)).off + 1, none⟩ = some (.int .i64 (rd_T37 f.f3 at_).f1) := fun o => ((below_alloc hB0 o).cell (World.block_lt_of_cell? w0 _ hx1)).trans hx1
  have y2 : ∀ o : Obj, (W.alloc o).cell? ⟨(ad.add (at_.toNat * 3)).block, (ad.add (at_.toNat * 3)).off + 2, none⟩ = some (.int .i64 (rd_T37 f.f3 at_).f2) := fun o => ((below_alloc hB0 o).cell (World.block_lt_of_cell? w0 _ hx2)).trans hx2
  have c8 : ∀ o : Obj, (W.alloc o).cell? ⟨g, 8, none⟩ = some (.slice (some ad) f.f3.length cc) := fun o => (blk_cell (blk_alloc hg o) 8).trans rfl
  have p1 : (0 ≤ at_) = True := eq_true hat.1
  have p2 : (at_ < (f.f3.length : Int)) = True := eq_true hat.2
  have HC := Aside0.mk hC
  have HLC := Aside0.mk hc
  have hb0 := bse_ok hs
  have hT := takes_ok hOk
  have hP := puts_ok (rd_T37 f.f3 at_)
  have hwf : (Lit.int .i64 (rd_T37 f.f3 at_).f0).wf = true := WalkArith.wf_i64 (by have := hOk.1; have := hOk.2.1; omega)
  have w1 : IntKind.i64.wrap (s.d - takesI (rd_T37 f.f3 at_)) = s.d - takesI (rd_T37 f.f3 at_) := by rw [i64_w]; exact w64 _ (by have := hs.1; omega) (by have := hs.2.1; omega)
  have w2 : IntKind.i64.wrap (at_ + 1) = at_ + 1 := by rw [i64_w]; exact w64 _ (by have := hat.1; omega) (by have := hat.2; omega)
  have w3 : IntKind.i64.wrap (putsI (rd_T37 f.f3 at_) - takesI (rd_T37 f.f3 at_)) = putsI (rd_T37 f.f3 at_) - takesI (rd_T37 f.f3 at_) := by rw [i64_w]; exact w64 _ (by omega) (by omega)
  have w4 : wrap64 (s.d + (putsI (rd_T37 f.f3 at_) - takesI (rd_T37 f.f3 at_))) = s.d - takesI (rd_T37 f.f3 at_) + putsI (rd_T37 f.f3 at_) := (w64 _ (by have := hs.1; omega) (by have := hs.2.1; omega)).trans (by omega)
  have HM := Aside0.mk hm
  clear hB0 hg h1 h2 h3 h4 hx0 hx1 hx2 hC hc
  generalize hi : rd_T37 f.f3 at_ = i at *
  clear hi
  go_enter Try.func29, Try.ntmps29
  go_wp2
  have HB := Aside0.mk (below_alloc (below_alloc (Below.refl W.heap.size W) (.cells #[.int .i64 s.d, .slice A s.m.length c] 52)) (.cells #[.int .i64 15, .int .i64 i.f1, .int .i64 i.f2] 37))
  have BS := Aside0.mk (blk_alloc (blk_new W (.cells #[.int .i64 s.d, .slice A s.m.length c] 52)) (.cells #[.int .i64 15, .int .i64 i.f1, .int .i64 i.f2] 37))
  have BI := Aside0.mk (blk_new2 W (.cells #[.int .i64 s.d, .slice A s.m.length c] 52) (.cells #[.int .i64 15, .int .i64 i.f1, .int .i64 i.f2] 37))
  clear y0 y1 y2 c8
  generalize (W.alloc (.cells #[.int .i64 s.d, .slice A s.m.length c] 52)).alloc (.cells #[.int .i64 15, .int .i64 i.f1, .int .i64 i.f2] 37) = W2 at HB BS BI ⊢
  have q0 := (blk_cell BI.out 0).trans rfl
  go_region_held3 (fun w' => w'.cell? ⟨W.heap.size + 1, 0, none⟩ = some (.int .i64 15)) (go_keep) (first
    | (go_at_call 37; (with_reducible refine (v_rules _).mono ?_); rintro e w1 ⟨g1, vs, rfl, hbt, hkeys⟩; obtain ⟨vr, hrun, hvr⟩ := hbt.lookR hkeys 15 (by decide) (by decide); have HB1 := Aside0.mk (below_step (below_drew1 HB.out) hbt.1); have BS1 := Aside0.mk (blk_below (blk_drew BS.out) hbt.1); have BI1 := Aside0.mk (blk_below (blk_drew BI.out) hbt.1); have r0 := (blk_cell BI1.out 0).trans rfl; obtain ⟨F, caps, rfl, he, hcl⟩ := (RuleV.ok hvr : RuleOk w0 w1 g fs xs ts lets n f vr 15); have HCL := Aside0.mk hcl; clear hbt hvr hcl hkeys HB BS BI q0))
  have r1 := (blk_cell BI1.out 1).trans rfl
  have r2 := (blk_cell BI1.out 2).trans rfl
  have hne : ∀ W : World, (binOp .neq 81 (.func (.func F) #[] caps) .nilFunc).run Try.prog W = .ok (.bool true) W := fun W => neq_func F caps W
  go_wp2_with fail
  have hcl2 := HCL.out w1 i (fun _ _ _ _ h => h) (HI.out.below HB1.out) hop
  rw [hop] at hcl2
  refine hcl2.mono ?_
  rintro e w2 ⟨rfl, hb⟩
  have HB2 := Aside0.mk (below_step HB1.out hb)
  have BS2 := Aside0.mk (blk_below BS1.out hb)
  have BI2 := Aside0.mk (blk_below BI1.out hb)
  clear hb HB1 BS1 BI1 r0 r1 r2 he hrun hne HCL hcl2
  have E1 := Aside0.mk (show okI fs xs.length ts.length lets n f i = false → nx1 fs xs.length ts.length lets n f i at_ s = none from fun h => by unfold nx1; rw [h]; rfl)
  have E2 := Aside0.mk (show okI fs xs.length ts.length lets n f i = true → s.d - takesI i < bse s.m → nx1 fs xs.length ts.length lets n f i at_ s = none from fun h1 h2 => by unfold nx1; rw [h1, if_pos rfl, if_pos h2])
  have E3 := Aside0.mk (show okI fs xs.length ts.length lets n f i = true → ¬ s.d - takesI i < bse s.m → nx1 fs xs.length ts.length lets n f i at_ s = goI at_ i s from fun h1 h2 => by unfold nx1; rw [h1, if_pos rfl, if_neg h2])
  generalize okI fs xs.length ts.length lets n f i = okb at *
  cases okb
  · go_wp2
    go_ret2
    exact ⟨HB2.out, .slice none 0 0, false, rfl, by rw [E1.out (by simp)]; exact nextOut_none⟩
  have q0 := (blk_cell BS2.out 0).trans rfl
  have q1 := (blk_cell BS2.out 1).trans rfl
  go_wp2
  by_cases hlt : s.d - takesI i < bse s.m
  · have hlt1 := decide_eq_true hlt
    have HLT := Aside0.mk hlt
    clear hlt
    go_region_held3 (fun w' => w'.cell? ⟨W.heap.size, 0, none⟩ = some (.int .i64 s.d) ∧ w'.cell? ⟨W.heap.size, 1, none⟩ = some (.slice A s.m.length c)) (go_keep) (first
      | (go_at_call 38; (with_reducible refine (verify_state_base.calls s.d A c s.m (bse s.m) _ (Kd.C_drew (Kd.C_below HC.out HB2.out)) HLC.out (base_f (by have := HM.out; omega))).mono ?_); rintro e w3 ⟨rfl, hb⟩; have HB3 := Aside0.mk (below_step (below_drew1 HB2.out) hb); have r0 := (blk_cell (blk_below (blk_drew BS2.out) hb) 0).trans rfl; have r1 := (blk_cell (blk_below (blk_drew BS2.out) hb) 1).trans rfl; clear hb))
    go_wp2
    go_ret2
    exact ⟨HB3.out, .slice none 0 0, false, rfl, by rw [E2.out (by simp) HLT.out]; exact nextOut_none⟩
  have hlt1 := decide_eq_false hlt
  have HLT := Aside0.mk hlt
  clear hlt
  go_region_held3 (fun w' => w'.cell? ⟨W.heap.size, 0, none⟩ = some (.int .i64 s.d) ∧ w'.cell? ⟨W.heap.size, 1, none⟩ = some (.slice A s.m.length c)) (go_keep) (first
    | (go_at_call 38; (with_reducible refine (verify_state_base.calls s.d A c s.m (bse s.m) _ (Kd.C_drew (Kd.C_below HC.out HB2.out)) HLC.out (base_f (by have := HM.out; omega))).mono ?_); rintro e w3 ⟨rfl, hb⟩; have HB3 := Aside0.mk (below_step (below_drew1 HB2.out) hb); have BS3 := Aside0.mk (blk_below (blk_drew BS2.out) hb); have BI3 := Aside0.mk (blk_below (blk_drew BI2.out) hb); have r0 := (blk_cell BS3.out 0).trans rfl; have r1 := (blk_cell BS3.out 1).trans rfl; clear hb))
  clear q0 q1
  go_wp2_with (first
    | (go_at_call 39; (with_reducible refine (v_moved _ _ _ _ _ _).mono ?_); rintro e w4 ⟨rfl, hb⟩; have HB4 := Aside0.mk (below_step HB3.out hb); have BS4 := Aside0.mk (blk_below BS3.out hb); have BI4 := Aside0.mk (blk_below BI3.out hb); have u0 : ∀ o : Obj, (w4.alloc o).cell? ⟨W.heap.size + 1, 0, none⟩ = some (.int .i64 15) := fun o => (blk_cell (blk_alloc BI4.out o) 0).trans rfl; have u1 : ∀ o : Obj, (w4.alloc o).cell? ⟨W.heap.size + 1, 1, none⟩ = some (.int .i64 i.f1) := fun o => (blk_cell (blk_alloc BI4.out o) 1).trans rfl; have u2 : ∀ o : Obj, (w4.alloc o).cell? ⟨W.heap.size + 1, 2, none⟩ = some (.int .i64 i.f2) := fun o => (blk_cell (blk_alloc BI4.out o) 2).trans rfl; have v0 : ∀ o : Obj, (w4.alloc o).cell? ⟨W.heap.size, 0, none⟩ = some (.int .i64 s.d) := fun o => (blk_cell (blk_alloc BS4.out o) 0).trans rfl; have v1 : ∀ o : Obj, (w4.alloc o).cell? ⟨W.heap.size, 1, none⟩ = some (.slice A s.m.length c) := fun o => (blk_cell (blk_alloc BS4.out o) 1).trans rfl; clear hb r0 r1))
  have HB5 := Aside0.mk (below_alloc HB4.out (.cells #[.int .i64 (at_ + 1), .int .i64 (s.d - takesI i + putsI i), .slice A s.m.length c] 69))
  have x1 := v1 (.cells #[.int .i64 (at_ + 1), .int .i64 (s.d - takesI i + putsI i), .slice A s.m.length c] 69)
  have x0 := v0 (.cells #[.int .i64 (at_ + 1), .int .i64 (s.d - takesI i + putsI i), .slice A s.m.length c] 69)
  have y0 := u0 (.cells #[.int .i64 (at_ + 1), .int .i64 (s.d - takesI i + putsI i), .slice A s.m.length c] 69)
  have y1 := u1 (.cells #[.int .i64 (at_ + 1), .int .i64 (s.d - takesI i + putsI i), .slice A s.m.length c] 69)
  have y2 := u2 (.cells #[.int .i64 (at_ + 1), .int .i64 (s.d - takesI i + putsI i), .slice A s.m.length c] 69)
  have z0 := (blk_cell (blk_new w4 (.cells #[.int .i64 (at_ + 1), .int .i64 (s.d - takesI i + putsI i), .slice A s.m.length c] 69)) 0).trans rfl
  have z1 := (blk_cell (blk_new w4 (.cells #[.int .i64 (at_ + 1), .int .i64 (s.d - takesI i + putsI i), .slice A s.m.length c] 69)) 1).trans rfl
  have z2 := (blk_cell (blk_new w4 (.cells #[.int .i64 (at_ + 1), .int .i64 (s.d - takesI i + putsI i), .slice A s.m.length c] 69)) 2).trans rfl
  clear u0 u1 u2 v0 v1
  generalize w4.alloc (.cells #[.int .i64 (at_ + 1), .int .i64 (s.d - takesI i + putsI i), .slice A s.m.length c] 69) = w5 at HB5 x0 x1 y0 y1 y2 z0 z1 z2 ⊢
  go_region_held3 (fun w' => w'.cell? ⟨W.heap.size, 1, none⟩ = some (.slice A s.m.length c)) (go_keep) (fail)
  go_wp2
  go_ret2
  refine ⟨below_drew1 HB5.out, .slice none 0 0, ((s.m.length : Int) == 0), rfl, ?_⟩
  rw [E3.out (by simp) HLT.out]
  unfold goI
  rw [if_pos (by simp [hop])]
  by_cases h0 : s.m.length = 0
  · rw [if_pos h0, h0]
    exact ⟨rfl, Kd.R_nil _ _ _ _ _⟩
  · rw [if_neg h0]
    exact beq_eq_false_iff_ne.mpr (by omega)
set_option maxHeartbeats 4000000 in
theorem next_23 (hI : IsW w0 W g fs xs ts lets n f) {at_ : Int} (hat : 0 ≤ at_ ∧ at_ < (f.f3.length : Int)) (hl : f.f3.length ≤ 400) (hOk : OkIns (rd_T37 f.f3 at_)) {s : St} (hs : OkS s) (hm : s.m.length ≤ 1000) {v : Value} (hR : Kd.R k89 89 W w0.heap.size (fun _ => True) v s.m)
    (hop : (rd_T37 f.f3 at_).f0 = 23) :
    Calls Try.prog 29 #[.pointer (some ⟨g, 0, none⟩), .int .i64 at_, .agg #[.int .i64 s.d, v]] W fun e w' => Below W.heap.size W w' ∧ ∃ u b, e = .returned (.tuple #[u, .bool b]) ∧
      NextOut w0 w' u b (nx1 fs xs.length ts.length lets n f (rd_T37 f.f3 at_) at_ s) := by
  have hu45 := Try.underlying45
  have hu32 := Try.underlying32
  have hu37 := Try.underlying37
  have hu52 := Try.underlying52
  have hu69 := Try.underlying69
  have hu30 := Try.underlying30
  have HI := Aside0.mk hI
  have HR := Aside0.mk hR
  obtain ⟨hB0, Af, cf, Ax, cx, At, ct, Ac, cc, hg, h1, h2, h3, h4⟩ := hI
  obtain ⟨A, c, rfl, hc, hC⟩ := Kd.R_reads hR
  obtain ⟨ad, e, hx0, hx1, hx2⟩ := at_T37 h4 at_ hat.1 hat.2
  cases e
  have y0 : ∀ o : Obj, (W.alloc o).cell? (ad.add (at_.toNat * 3)) = some (.int .i64 (rd_T37 f.f3 at_).f0) := fun o => ((below_alloc hB0 o).cell (World.block_lt_of_cell? w0 _ hx0)).trans hx0
  have y1 : ∀ o : Obj, (W.alloc o).cell? ⟨(ad.add (at_.toNat * 3)).block, (ad.add (at_.toNat * 3)).off + 1, none⟩ = some (.int .i64 (rd_T37 f.f3 at_).f1) := fun o => ((below_alloc hB0 o).cell (World.block_lt_of_cell? w0 _ hx1)).trans hx1
  have y2 : ∀ o : Obj, (W.alloc o).cell? ⟨(ad.add (at_.toNat * 3)).block, (ad.add (at_.toNat * 3)).off + 2, none⟩ = some (.int .i64 (rd_T37 f.f3 at_).f2) := fun o => ((below_alloc hB0 o).cell (World.block_lt_of_cell? w0 _ hx2)).trans hx2
  have c8 : ∀ o : Obj, (W.alloc o).cell? ⟨g, 8, none⟩ = some (.slice (some ad) f.f3.length cc) := fun o => (blk_cell (blk_alloc hg o) 8).trans rfl
  have p1 : (0 ≤ at_) = True := eq_true hat.1
  have p2 : (at_ < (f.f3.length : Int)) = True := eq_true hat.2
  have HC := Aside0.mk hC
  have HLC := Aside0.mk hc
  have hb0 := bse_ok hs
  have hT := takes_ok hOk
  have hP := puts_ok (rd_T37 f.f3 at_)
  have hwf : (Lit.int .i64 (rd_T37 f.f3 at_).f0).wf = true := WalkArith.wf_i64 (by have := hOk.1; have := hOk.2.1; omega)
  have w1 : IntKind.i64.wrap (s.d - takesI (rd_T37 f.f3 at_)) = s.d - takesI (rd_T37 f.f3 at_) := by rw [i64_w]; exact w64 _ (by have := hs.1; omega) (by have := hs.2.1; omega)
  have w2 : IntKind.i64.wrap (at_ + 1) = at_ + 1 := by rw [i64_w]; exact w64 _ (by have := hat.1; omega) (by have := hat.2; omega)
  have w3 : IntKind.i64.wrap (putsI (rd_T37 f.f3 at_) - takesI (rd_T37 f.f3 at_)) = putsI (rd_T37 f.f3 at_) - takesI (rd_T37 f.f3 at_) := by rw [i64_w]; exact w64 _ (by omega) (by omega)
  have w4 : wrap64 (s.d + (putsI (rd_T37 f.f3 at_) - takesI (rd_T37 f.f3 at_))) = s.d - takesI (rd_T37 f.f3 at_) + putsI (rd_T37 f.f3 at_) := (w64 _ (by have := hs.1; omega) (by have := hs.2.1; omega)).trans (by omega)
  have HM := Aside0.mk hm
  clear hB0 hg h1 h2 h3 h4 hx0 hx1 hx2 hC hc
  generalize hi : rd_T37 f.f3 at_ = i at *
  clear hi
  go_enter Try.func29, Try.ntmps29
  go_wp2
  have HB := Aside0.mk (below_alloc (below_alloc (Below.refl W.heap.size W) (.cells #[.int .i64 s.d, .slice A s.m.length c] 52)) (.cells #[.int .i64 23, .int .i64 i.f1, .int .i64 i.f2] 37))
  have BS := Aside0.mk (blk_alloc (blk_new W (.cells #[.int .i64 s.d, .slice A s.m.length c] 52)) (.cells #[.int .i64 23, .int .i64 i.f1, .int .i64 i.f2] 37))
  have BI := Aside0.mk (blk_new2 W (.cells #[.int .i64 s.d, .slice A s.m.length c] 52) (.cells #[.int .i64 23, .int .i64 i.f1, .int .i64 i.f2] 37))
  clear y0 y1 y2 c8
  generalize (W.alloc (.cells #[.int .i64 s.d, .slice A s.m.length c] 52)).alloc (.cells #[.int .i64 23, .int .i64 i.f1, .int .i64 i.f2] 37) = W2 at HB BS BI ⊢
  have q0 := (blk_cell BI.out 0).trans rfl
  go_region_held3 (fun w' => w'.cell? ⟨W.heap.size + 1, 0, none⟩ = some (.int .i64 23)) (go_keep) (first
    | (go_at_call 37; (with_reducible refine (v_rules _).mono ?_); rintro e w1 ⟨g1, vs, rfl, hbt, hkeys⟩; obtain ⟨vr, hrun, hvr⟩ := hbt.lookR hkeys 23 (by decide) (by decide); have HB1 := Aside0.mk (below_step (below_drew1 HB.out) hbt.1); have BS1 := Aside0.mk (blk_below (blk_drew BS.out) hbt.1); have BI1 := Aside0.mk (blk_below (blk_drew BI.out) hbt.1); have r0 := (blk_cell BI1.out 0).trans rfl; obtain ⟨F, caps, rfl, he, hcl⟩ := (RuleV.ok hvr : RuleOk w0 w1 g fs xs ts lets n f vr 23); have HCL := Aside0.mk hcl; clear hbt hvr hcl hkeys HB BS BI q0))
  have r1 := (blk_cell BI1.out 1).trans rfl
  have r2 := (blk_cell BI1.out 2).trans rfl
  have hne : ∀ W : World, (binOp .neq 81 (.func (.func F) #[] caps) .nilFunc).run Try.prog W = .ok (.bool true) W := fun W => neq_func F caps W
  go_wp2_with fail
  have hcl2 := HCL.out w1 i (fun _ _ _ _ h => h) (HI.out.below HB1.out) hop
  rw [hop] at hcl2
  refine hcl2.mono ?_
  rintro e w2 ⟨rfl, hb⟩
  have HB2 := Aside0.mk (below_step HB1.out hb)
  have BS2 := Aside0.mk (blk_below BS1.out hb)
  have BI2 := Aside0.mk (blk_below BI1.out hb)
  clear hb HB1 BS1 BI1 r0 r1 r2 he hrun hne HCL hcl2
  have E1 := Aside0.mk (show okI fs xs.length ts.length lets n f i = false → nx1 fs xs.length ts.length lets n f i at_ s = none from fun h => by unfold nx1; rw [h]; rfl)
  have E2 := Aside0.mk (show okI fs xs.length ts.length lets n f i = true → s.d - takesI i < bse s.m → nx1 fs xs.length ts.length lets n f i at_ s = none from fun h1 h2 => by unfold nx1; rw [h1, if_pos rfl, if_pos h2])
  have E3 := Aside0.mk (show okI fs xs.length ts.length lets n f i = true → ¬ s.d - takesI i < bse s.m → nx1 fs xs.length ts.length lets n f i at_ s = goI at_ i s from fun h1 h2 => by unfold nx1; rw [h1, if_pos rfl, if_neg h2])
  generalize okI fs xs.length ts.length lets n f i = okb at *
  cases okb
  · go_wp2
    go_ret2
    exact ⟨HB2.out, .slice none 0 0, false, rfl, by rw [E1.out (by simp)]; exact nextOut_none⟩
  have q0 := (blk_cell BS2.out 0).trans rfl
  have q1 := (blk_cell BS2.out 1).trans rfl
  go_wp2
  by_cases hlt : s.d - takesI i < bse s.m
  · have hlt1 := decide_eq_true hlt
    have HLT := Aside0.mk hlt
    clear hlt
    go_region_held3 (fun w' => w'.cell? ⟨W.heap.size, 0, none⟩ = some (.int .i64 s.d) ∧ w'.cell? ⟨W.heap.size, 1, none⟩ = some (.slice A s.m.length c)) (go_keep) (first
      | (go_at_call 38; (with_reducible refine (verify_state_base.calls s.d A c s.m (bse s.m) _ (Kd.C_drew (Kd.C_below HC.out HB2.out)) HLC.out (base_f (by have := HM.out; omega))).mono ?_); rintro e w3 ⟨rfl, hb⟩; have HB3 := Aside0.mk (below_step (below_drew1 HB2.out) hb); have r0 := (blk_cell (blk_below (blk_drew BS2.out) hb) 0).trans rfl; have r1 := (blk_cell (blk_below (blk_drew BS2.out) hb) 1).trans rfl; clear hb))
    go_wp2
    go_ret2
    exact ⟨HB3.out, .slice none 0 0, false, rfl, by rw [E2.out (by simp) HLT.out]; exact nextOut_none⟩
  have hlt1 := decide_eq_false hlt
  have HLT := Aside0.mk hlt
  clear hlt
  go_region_held3 (fun w' => w'.cell? ⟨W.heap.size, 0, none⟩ = some (.int .i64 s.d) ∧ w'.cell? ⟨W.heap.size, 1, none⟩ = some (.slice A s.m.length c)) (go_keep) (first
    | (go_at_call 38; (with_reducible refine (verify_state_base.calls s.d A c s.m (bse s.m) _ (Kd.C_drew (Kd.C_below HC.out HB2.out)) HLC.out (base_f (by have := HM.out; omega))).mono ?_); rintro e w3 ⟨rfl, hb⟩; have HB3 := Aside0.mk (below_step (below_drew1 HB2.out) hb); have BS3 := Aside0.mk (blk_below (blk_drew BS2.out) hb); have BI3 := Aside0.mk (blk_below (blk_drew BI2.out) hb); have r0 := (blk_cell BS3.out 0).trans rfl; have r1 := (blk_cell BS3.out 1).trans rfl; clear hb))
  clear q0 q1
  go_wp2_with (first
    | (go_at_call 39; (with_reducible refine (v_moved _ _ _ _ _ _).mono ?_); rintro e w4 ⟨rfl, hb⟩; have HB4 := Aside0.mk (below_step HB3.out hb); have BS4 := Aside0.mk (blk_below BS3.out hb); have BI4 := Aside0.mk (blk_below BI3.out hb); have u0 : ∀ o : Obj, (w4.alloc o).cell? ⟨W.heap.size + 1, 0, none⟩ = some (.int .i64 23) := fun o => (blk_cell (blk_alloc BI4.out o) 0).trans rfl; have u1 : ∀ o : Obj, (w4.alloc o).cell? ⟨W.heap.size + 1, 1, none⟩ = some (.int .i64 i.f1) := fun o => (blk_cell (blk_alloc BI4.out o) 1).trans rfl; have u2 : ∀ o : Obj, (w4.alloc o).cell? ⟨W.heap.size + 1, 2, none⟩ = some (.int .i64 i.f2) := fun o => (blk_cell (blk_alloc BI4.out o) 2).trans rfl; have v0 : ∀ o : Obj, (w4.alloc o).cell? ⟨W.heap.size, 0, none⟩ = some (.int .i64 s.d) := fun o => (blk_cell (blk_alloc BS4.out o) 0).trans rfl; have v1 : ∀ o : Obj, (w4.alloc o).cell? ⟨W.heap.size, 1, none⟩ = some (.slice A s.m.length c) := fun o => (blk_cell (blk_alloc BS4.out o) 1).trans rfl; clear hb r0 r1))
  go_ret2
  refine ⟨below_alloc HB4.out _, .slice none 0 0, true, rfl, ?_⟩
  rw [E3.out (by simp) HLT.out]
  unfold goI
  rw [if_neg (by simp [hop]), if_pos (by simp [hop])]
  exact ⟨rfl, Kd.R_nil _ _ _ _ _⟩
set_option maxHeartbeats 4000000 in
theorem next_30 (hI : IsW w0 W g fs xs ts lets n f) {at_ : Int} (hat : 0 ≤ at_ ∧ at_ < (f.f3.length : Int)) (hl : f.f3.length ≤ 400) (hOk : OkIns (rd_T37 f.f3 at_)) {s : St} (hs : OkS s) (hm : s.m.length ≤ 1000) {v : Value} (hR : Kd.R k89 89 W w0.heap.size (fun _ => True) v s.m)
    (hop : (rd_T37 f.f3 at_).f0 = 30) :
    Calls Try.prog 29 #[.pointer (some ⟨g, 0, none⟩), .int .i64 at_, .agg #[.int .i64 s.d, v]] W fun e w' => Below W.heap.size W w' ∧ ∃ u b, e = .returned (.tuple #[u, .bool b]) ∧
      NextOut w0 w' u b (nx1 fs xs.length ts.length lets n f (rd_T37 f.f3 at_) at_ s) := by
  have hu45 := Try.underlying45
  have hu32 := Try.underlying32
  have hu37 := Try.underlying37
  have hu52 := Try.underlying52
  have hu69 := Try.underlying69
  have hu30 := Try.underlying30
  have HI := Aside0.mk hI
  have HR := Aside0.mk hR
  obtain ⟨hB0, Af, cf, Ax, cx, At, ct, Ac, cc, hg, h1, h2, h3, h4⟩ := hI
  obtain ⟨A, c, rfl, hc, hC⟩ := Kd.R_reads hR
  obtain ⟨ad, e, hx0, hx1, hx2⟩ := at_T37 h4 at_ hat.1 hat.2
  cases e
  have y0 : ∀ o : Obj, (W.alloc o).cell? (ad.add (at_.toNat * 3)) = some (.int .i64 (rd_T37 f.f3 at_).f0) := fun o => ((below_alloc hB0 o).cell (World.block_lt_of_cell? w0 _ hx0)).trans hx0
  have y1 : ∀ o : Obj, (W.alloc o).cell? ⟨(ad.add (at_.toNat * 3)).block, (ad.add (at_.toNat * 3)).off + 1, none⟩ = some (.int .i64 (rd_T37 f.f3 at_).f1) := fun o => ((below_alloc hB0 o).cell (World.block_lt_of_cell? w0 _ hx1)).trans hx1
  have y2 : ∀ o : Obj, (W.alloc o).cell? ⟨(ad.add (at_.toNat * 3)).block, (ad.add (at_.toNat * 3)).off + 2, none⟩ = some (.int .i64 (rd_T37 f.f3 at_).f2) := fun o => ((below_alloc hB0 o).cell (World.block_lt_of_cell? w0 _ hx2)).trans hx2
  have c8 : ∀ o : Obj, (W.alloc o).cell? ⟨g, 8, none⟩ = some (.slice (some ad) f.f3.length cc) := fun o => (blk_cell (blk_alloc hg o) 8).trans rfl
  have p1 : (0 ≤ at_) = True := eq_true hat.1
  have p2 : (at_ < (f.f3.length : Int)) = True := eq_true hat.2
  have HC := Aside0.mk hC
  have HLC := Aside0.mk hc
  have hb0 := bse_ok hs
  have hT := takes_ok hOk
  have hP := puts_ok (rd_T37 f.f3 at_)
  have hwf : (Lit.int .i64 (rd_T37 f.f3 at_).f0).wf = true := WalkArith.wf_i64 (by have := hOk.1; have := hOk.2.1; omega)
  have w1_ : IntKind.i64.wrap (s.d - takesI (rd_T37 f.f3 at_)) = s.d - takesI (rd_T37 f.f3 at_) := by rw [i64_w]; exact w64 _ (by have := hs.1; omega) (by have := hs.2.1; omega)
  have w2 : IntKind.i64.wrap (at_ + 1) = at_ + 1 := by rw [i64_w]; exact w64 _ (by have := hat.1; omega) (by have := hat.2; omega)
  have w3 : IntKind.i64.wrap (putsI (rd_T37 f.f3 at_) - takesI (rd_T37 f.f3 at_)) = putsI (rd_T37 f.f3 at_) - takesI (rd_T37 f.f3 at_) := by rw [i64_w]; exact w64 _ (by omega) (by omega)
  have w4_ : wrap64 (s.d + (putsI (rd_T37 f.f3 at_) - takesI (rd_T37 f.f3 at_))) = s.d - takesI (rd_T37 f.f3 at_) + putsI (rd_T37 f.f3 at_) := (w64 _ (by have := hs.1; omega) (by have := hs.2.1; omega)).trans (by omega)
  have HM := Aside0.mk hm
  clear hB0 hg h1 h2 h3 h4 hx0 hx1 hx2 hC hc
  generalize hi : rd_T37 f.f3 at_ = i at *
  clear hi
  go_enter Try.func29, Try.ntmps29
  go_wp2
  have HB := Aside0.mk (below_alloc (below_alloc (Below.refl W.heap.size W) (.cells #[.int .i64 s.d, .slice A s.m.length c] 52)) (.cells #[.int .i64 30, .int .i64 i.f1, .int .i64 i.f2] 37))
  have BS := Aside0.mk (blk_alloc (blk_new W (.cells #[.int .i64 s.d, .slice A s.m.length c] 52)) (.cells #[.int .i64 30, .int .i64 i.f1, .int .i64 i.f2] 37))
  have BI := Aside0.mk (blk_new2 W (.cells #[.int .i64 s.d, .slice A s.m.length c] 52) (.cells #[.int .i64 30, .int .i64 i.f1, .int .i64 i.f2] 37))
  clear y0 y1 y2 c8
  generalize (W.alloc (.cells #[.int .i64 s.d, .slice A s.m.length c] 52)).alloc (.cells #[.int .i64 30, .int .i64 i.f1, .int .i64 i.f2] 37) = W2 at HB BS BI ⊢
  have q0 := (blk_cell BI.out 0).trans rfl
  have EN := no_rule (fs := fs) (xs := xs) (ts := ts) (lets := lets) (n := n) (f := f) (i := i) hOk.1 (by rw [hop]; decide)
  have E2 := Aside0.mk (show s.d < bse s.m → nx1 fs xs.length ts.length lets n f i at_ s = none from fun h2 => by unfold nx1; rw [EN.1, if_pos rfl, EN.2.1, if_pos (by omega)])
  have E3 := Aside0.mk (show ¬ s.d < bse s.m → nx1 fs xs.length ts.length lets n f i at_ s = goI at_ i s from fun h2 => by unfold nx1; rw [EN.1, if_pos rfl, EN.2.1, if_neg (by omega)])
  have w1 : IntKind.i64.wrap s.d = s.d := by rw [i64_w]; exact w64 _ (by have := hs.1; omega) (by have := hs.2.1; omega)
  have w4 : wrap64 s.d = s.d := w64 _ (by have := hs.1; omega) (by have := hs.2.1; omega)
  clear w3 w1_ w4_ hT hP EN
  go_region_held3 (fun w' => w'.cell? ⟨W.heap.size + 1, 0, none⟩ = some (.int .i64 30)) (go_keep) (first
    | (go_at_call 37; (with_reducible refine (v_rules _).mono ?_); rintro e w2 ⟨g1, vs, rfl, hbt, hkeys⟩; have hrun := hbt.lookN 30 (by decide) (fun v => by simp [RuleV]); have HB2 := Aside0.mk (below_step (below_drew1 HB.out) hbt.1); have BS2 := Aside0.mk (blk_below (blk_drew BS.out) hbt.1); have BI2 := Aside0.mk (blk_below (blk_drew BI.out) hbt.1); have r0 := (blk_cell BI2.out 0).trans rfl; clear hbt hkeys HB BS BI q0))
  have hne := neq_nil
  have q0 := (blk_cell BS2.out 0).trans rfl
  have q1 := (blk_cell BS2.out 1).trans rfl
  go_wp2
  clear hrun hne r0
  by_cases hlt : s.d < bse s.m
  · have hlt1 := decide_eq_true hlt
    have HLT := Aside0.mk hlt
    clear hlt
    go_region_held3 (fun w' => w'.cell? ⟨W.heap.size, 0, none⟩ = some (.int .i64 s.d) ∧ w'.cell? ⟨W.heap.size, 1, none⟩ = some (.slice A s.m.length c)) (go_keep) (first
      | (go_at_call 38; (with_reducible refine (verify_state_base.calls s.d A c s.m (bse s.m) _ (Kd.C_drew (Kd.C_below HC.out HB2.out)) HLC.out (base_f (by have := HM.out; omega))).mono ?_); rintro e w3 ⟨rfl, hb⟩; have HB3 := Aside0.mk (below_step (below_drew1 HB2.out) hb); have r0 := (blk_cell (blk_below (blk_drew BS2.out) hb) 0).trans rfl; have r1 := (blk_cell (blk_below (blk_drew BS2.out) hb) 1).trans rfl; clear hb))
    go_wp2
    go_ret2
    exact ⟨HB3.out, .slice none 0 0, false, rfl, by rw [E2.out HLT.out]; exact nextOut_none⟩
  have hlt1 := decide_eq_false hlt
  have HLT := Aside0.mk hlt
  clear hlt
  go_region_held3 (fun w' => w'.cell? ⟨W.heap.size, 0, none⟩ = some (.int .i64 s.d) ∧ w'.cell? ⟨W.heap.size, 1, none⟩ = some (.slice A s.m.length c)) (go_keep) (first
    | (go_at_call 38; (with_reducible refine (verify_state_base.calls s.d A c s.m (bse s.m) _ (Kd.C_drew (Kd.C_below HC.out HB2.out)) HLC.out (base_f (by have := HM.out; omega))).mono ?_); rintro e w3 ⟨rfl, hb⟩; have HB3 := Aside0.mk (below_step (below_drew1 HB2.out) hb); have BS3 := Aside0.mk (blk_below (blk_drew BS2.out) hb); have BI3 := Aside0.mk (blk_below (blk_drew BI2.out) hb); have r0 := (blk_cell BS3.out 0).trans rfl; have r1 := (blk_cell BS3.out 1).trans rfl; clear hb))
  clear q0 q1
  go_wp2_with (first
    | (go_at_call 39; (with_reducible refine (v_moved _ _ _ _ _ _).mono ?_); rintro e w4 ⟨rfl, hb⟩; have HB4 := Aside0.mk (below_step HB3.out hb); have BS4 := Aside0.mk (blk_below BS3.out hb); have BI4 := Aside0.mk (blk_below BI3.out hb); have u0 : ∀ o : Obj, (w4.alloc o).cell? ⟨W.heap.size + 1, 0, none⟩ = some (.int .i64 30) := fun o => (blk_cell (blk_alloc BI4.out o) 0).trans rfl; have u1 : ∀ o : Obj, (w4.alloc o).cell? ⟨W.heap.size + 1, 1, none⟩ = some (.int .i64 i.f1) := fun o => (blk_cell (blk_alloc BI4.out o) 1).trans rfl; have u2 : ∀ o : Obj, (w4.alloc o).cell? ⟨W.heap.size + 1, 2, none⟩ = some (.int .i64 i.f2) := fun o => (blk_cell (blk_alloc BI4.out o) 2).trans rfl; have v0 : ∀ o : Obj, (w4.alloc o).cell? ⟨W.heap.size, 0, none⟩ = some (.int .i64 s.d) := fun o => (blk_cell (blk_alloc BS4.out o) 0).trans rfl; have v1 : ∀ o : Obj, (w4.alloc o).cell? ⟨W.heap.size, 1, none⟩ = some (.slice A s.m.length c) := fun o => (blk_cell (blk_alloc BS4.out o) 1).trans rfl; clear hb r0 r1))
  go_ret2
  refine ⟨below_alloc HB4.out _, .slice none 0 0, true, rfl, ?_⟩
  rw [E3.out HLT.out]
  unfold goI
  rw [if_neg (by simp [hop]), if_pos (by simp [hop])]
  exact ⟨rfl, Kd.R_nil _ _ _ _ _⟩
end
end Go.Proofs.Ytnhipgmphhndhaa.Q
namespace Go.Proofs.Ytnhipgmphhndhaa.Q
open Go.RowKit Go.Proofs.YtnhipgmphhndhaaW.PrintWords Go.Proofs.YtnhipgmphhndhaaW.PrintLast Go.Proofs.YtnhipgmphhndhaaW.PrintMore
set_option linter.unusedVariables false
set_option linter.unusedSectionVars false
set_option linter.unusedSimpArgs false
set_option maxRecDepth 100000
/-! ### (*walker).next, by what the Op is -/
section
variable {w0 W : World} {g : Nat} {fs : List S32} {xs : List Int} {ts : List ByteArray} {lets n : Int} {f : S32}
set_option maxHeartbeats 4000000 in
theorem next_16 (hI : IsW w0 W g fs xs ts lets n f) {at_ : Int} (hat : 0 ≤ at_ ∧ at_ < (f.f3.length : Int)) (hl : f.f3.length ≤ 400) (hOk : OkIns (rd_T37 f.f3 at_)) {s : St} (hs : OkS s) (hm : s.m.length ≤ 1000) {v : Value} (hR : Kd.R k89 89 W w0.heap.size (fun _ => True) v s.m)
    (hop : (rd_T37 f.f3 at_).f0 = 16) :
    Calls Try.prog 29 #[.pointer (some ⟨g, 0, none⟩), .int .i64 at_, .agg #[.int .i64 s.d, v]] W fun e w' => Below W.heap.size W w' ∧ ∃ u b, e = .returned (.tuple #[u, .bool b]) ∧
      NextOut w0 w' u b (nx1 fs xs.length ts.length lets n f (rd_T37 f.f3 at_) at_ s) := by
  have hu45 := Try.underlying45
  have hu32 := Try.underlying32
  have hu37 := Try.underlying37
  have hu52 := Try.underlying52
  have hu69 := Try.underlying69
  have hu30 := Try.underlying30
  have HI := Aside0.mk hI
  have HR := Aside0.mk hR
  obtain ⟨hB0, Af, cf, Ax, cx, At, ct, Ac, cc, hg, h1, h2, h3, h4⟩ := hI
  obtain ⟨A, c, rfl, hc, hC⟩ := Kd.R_reads hR
  obtain ⟨ad, e, hx0, hx1, hx2⟩ := at_T37 h4 at_ hat.1 hat.2
  cases e
  have y0 : ∀ o : Obj, (W.alloc o).cell? (ad.add (at_.toNat * 3)) = some (.int .i64 (rd_T37 f.f3 at_).f0) := fun o => ((below_alloc hB0 o).cell (World.block_lt_of_cell? w0 _ hx0)).trans hx0
  have y1 : ∀ o : Obj, (W.alloc o).cell? ⟨(ad.add (at_.toNat * 3)).block, (ad.add (at_.toNat * 3)).off + 1, none⟩ = some (.int .i64 (rd_T37 f.f3 at_).f1) := fun o => ((below_alloc hB0 o).cell (World.block_lt_of_cell? w0 _ hx1)).trans hx1
  have y2 : ∀ o : Obj, (W.alloc o).cell? ⟨(ad.add (at_.toNat * 3)).block, (ad.add (at_.toNat * 3)).off + 2, none⟩ = some (.int .i64 (rd_T37 f.f3 at_).f2) := fun o => ((below_alloc hB0 o).cell (World.block_lt_of_cell? w0 _ hx2)).trans hx2
  have c8 : ∀ o : Obj, (W.alloc o).cell? ⟨g, 8, none⟩ = some (.slice (some ad) f.f3.length cc) := fun o => (blk_cell (blk_alloc hg o) 8).trans rfl
  have p1 : (0 ≤ at_) = True := eq_true hat.1
  have p2 : (at_ < (f.f3.length : Int)) = True := eq_true hat.2
  have HC := Aside0.mk hC
  have HLC := Aside0.mk hc
  have hb0 := bse_ok hs
  have hT := takes_ok hOk
  have hP := puts_ok (rd_T37 f.f3 at_)
  have hwf : (Lit.int .i64 (rd_T37 f.f3 at_).f0).wf = true := WalkArith.wf_i64 (by have := hOk.1; have := hOk.2.1; omega)
  have w1_ : IntKind.i64.wrap (s.d - takesI (rd_T37 f.f3 at_)) = s.d - takesI (rd_T37 f.f3 at_) := by rw [i64_w]; exact w64 _ (by have := hs.1; omega) (by have := hs.2.1; omega)
  have w2 : IntKind.i64.wrap (at_ + 1) = at_ + 1 := by rw [i64_w]; exact w64 _ (by have := hat.1; omega) (by have := hat.2; omega)
  have w3 : IntKind.i64.wrap (putsI (rd_T37 f.f3 at_) - takesI (rd_T37 f.f3 at_)) = putsI (rd_T37 f.f3 at_) - takesI (rd_T37 f.f3 at_) := by rw [i64_w]; exact w64 _ (by omega) (by omega)
  have w4_ : wrap64 (s.d + (putsI (rd_T37 f.f3 at_) - takesI (rd_T37 f.f3 at_))) = s.d - takesI (rd_T37 f.f3 at_) + putsI (rd_T37 f.f3 at_) := (w64 _ (by have := hs.1; omega) (by have := hs.2.1; omega)).trans (by omega)
  have HM := Aside0.mk hm
  clear hB0 hg h1 h2 h3 h4 hx0 hx1 hx2 hC hc
  generalize hi : rd_T37 f.f3 at_ = i at *
  clear hi
  go_enter Try.func29, Try.ntmps29
  go_wp2
  have HB := Aside0.mk (below_alloc (below_alloc (Below.refl W.heap.size W) (.cells #[.int .i64 s.d, .slice A s.m.length c] 52)) (.cells #[.int .i64 16, .int .i64 i.f1, .int .i64 i.f2] 37))
  have BS := Aside0.mk (blk_alloc (blk_new W (.cells #[.int .i64 s.d, .slice A s.m.length c] 52)) (.cells #[.int .i64 16, .int .i64 i.f1, .int .i64 i.f2] 37))
  have BI := Aside0.mk (blk_new2 W (.cells #[.int .i64 s.d, .slice A s.m.length c] 52) (.cells #[.int .i64 16, .int .i64 i.f1, .int .i64 i.f2] 37))
  clear y0 y1 y2 c8
  generalize (W.alloc (.cells #[.int .i64 s.d, .slice A s.m.length c] 52)).alloc (.cells #[.int .i64 16, .int .i64 i.f1, .int .i64 i.f2] 37) = W2 at HB BS BI ⊢
  have q0 := (blk_cell BI.out 0).trans rfl
  have EN := no_rule (fs := fs) (xs := xs) (ts := ts) (lets := lets) (n := n) (f := f) (i := i) hOk.1 (by rw [hop]; decide)
  have E2 := Aside0.mk (show s.d < bse s.m → nx1 fs xs.length ts.length lets n f i at_ s = none from fun h2 => by unfold nx1; rw [EN.1, if_pos rfl, EN.2.1, if_pos (by omega)])
  have E3 := Aside0.mk (show ¬ s.d < bse s.m → nx1 fs xs.length ts.length lets n f i at_ s = goI at_ i s from fun h2 => by unfold nx1; rw [EN.1, if_pos rfl, EN.2.1, if_neg (by omega)])
  have w1 : IntKind.i64.wrap s.d = s.d := by rw [i64_w]; exact w64 _ (by have := hs.1; omega) (by have := hs.2.1; omega)
  have w4 : wrap64 s.d = s.d := w64 _ (by have := hs.1; omega) (by have := hs.2.1; omega)
  clear w3 w1_ w4_ hT hP EN
  go_region_held3 (fun w' => w'.cell? ⟨W.heap.size + 1, 0, none⟩ = some (.int .i64 16)) (go_keep) (first
    | (go_at_call 37; (with_reducible refine (v_rules _).mono ?_); rintro e w2 ⟨g1, vs, rfl, hbt, hkeys⟩; have hrun := hbt.lookN 16 (by decide) (fun v => by simp [RuleV]); have HB2 := Aside0.mk (below_step (below_drew1 HB.out) hbt.1); have BS2 := Aside0.mk (blk_below (blk_drew BS.out) hbt.1); have BI2 := Aside0.mk (blk_below (blk_drew BI.out) hbt.1); have r0 := (blk_cell BI2.out 0).trans rfl; clear hbt hkeys HB BS BI q0))
  have hne := neq_nil
  have q0 := (blk_cell BS2.out 0).trans rfl
  have q1 := (blk_cell BS2.out 1).trans rfl
  go_wp2
  clear hrun hne r0
  by_cases hlt : s.d < bse s.m
  · have hlt1 := decide_eq_true hlt
    have HLT := Aside0.mk hlt
    clear hlt
    go_region_held3 (fun w' => w'.cell? ⟨W.heap.size, 0, none⟩ = some (.int .i64 s.d) ∧ w'.cell? ⟨W.heap.size, 1, none⟩ = some (.slice A s.m.length c)) (go_keep) (first
      | (go_at_call 38; (with_reducible refine (verify_state_base.calls s.d A c s.m (bse s.m) _ (Kd.C_drew (Kd.C_below HC.out HB2.out)) HLC.out (base_f (by have := HM.out; omega))).mono ?_); rintro e w3 ⟨rfl, hb⟩; have HB3 := Aside0.mk (below_step (below_drew1 HB2.out) hb); have r0 := (blk_cell (blk_below (blk_drew BS2.out) hb) 0).trans rfl; have r1 := (blk_cell (blk_below (blk_drew BS2.out) hb) 1).trans rfl; clear hb))
    go_wp2
    go_ret2
    exact ⟨HB3.out, .slice none 0 0, false, rfl, by rw [E2.out HLT.out]; exact nextOut_none⟩
  have hlt1 := decide_eq_false hlt
  have HLT := Aside0.mk hlt
  clear hlt
  go_region_held3 (fun w' => w'.cell? ⟨W.heap.size, 0, none⟩ = some (.int .i64 s.d) ∧ w'.cell? ⟨W.heap.size, 1, none⟩ = some (.slice A s.m.length c)) (go_keep) (first
    | (go_at_call 38; (with_reducible refine (verify_state_base.calls s.d A c s.m (bse s.m) _ (Kd.C_drew (Kd.C_below HC.out HB2.out)) HLC.out (base_f (by have := HM.out; omega))).mono ?_); rintro e w3 ⟨rfl, hb⟩; have HB3 := Aside0.mk (below_step (below_drew1 HB2.out) hb); have BS3 := Aside0.mk (blk_below (blk_drew BS2.out) hb); have BI3 := Aside0.mk (blk_below (blk_drew BI2.out) hb); have r0 := (blk_cell BS3.out 0).trans rfl; have r1 := (blk_cell BS3.out 1).trans rfl; clear hb))
  clear q0 q1
  go_wp2_with (first
    | (go_at_call 39; (with_reducible refine (v_moved _ _ _ _ _ _).mono ?_); rintro e w4 ⟨rfl, hb⟩; have HB4 := Aside0.mk (below_step HB3.out hb); have BS4 := Aside0.mk (blk_below BS3.out hb); have BI4 := Aside0.mk (blk_below BI3.out hb); have u0 : ∀ o : Obj, (w4.alloc o).cell? ⟨W.heap.size + 1, 0, none⟩ = some (.int .i64 16) := fun o => (blk_cell (blk_alloc BI4.out o) 0).trans rfl; have u1 : ∀ o : Obj, (w4.alloc o).cell? ⟨W.heap.size + 1, 1, none⟩ = some (.int .i64 i.f1) := fun o => (blk_cell (blk_alloc BI4.out o) 1).trans rfl; have u2 : ∀ o : Obj, (w4.alloc o).cell? ⟨W.heap.size + 1, 2, none⟩ = some (.int .i64 i.f2) := fun o => (blk_cell (blk_alloc BI4.out o) 2).trans rfl; have v0 : ∀ o : Obj, (w4.alloc o).cell? ⟨W.heap.size, 0, none⟩ = some (.int .i64 s.d) := fun o => (blk_cell (blk_alloc BS4.out o) 0).trans rfl; have v1 : ∀ o : Obj, (w4.alloc o).cell? ⟨W.heap.size, 1, none⟩ = some (.slice A s.m.length c) := fun o => (blk_cell (blk_alloc BS4.out o) 1).trans rfl; clear hb r0 r1))
  go_ret2
  refine ⟨below_alloc (below_alloc HB4.out _) _, _, true, rfl, ?_⟩
  rw [E3.out HLT.out]
  unfold goI
  rw [if_neg (by simp [hop]), if_neg (by simp [hop]), if_pos (by simp [hop])]
  exact ⟨rfl, R69_one (by simp) (Nat.le_trans HI.out.1.size (below_alloc HB4.out _).size) (ofT (i.f1, s)) (R89_far HR.out (below_alloc HB4.out _))⟩
set_option maxHeartbeats 4000000 in
theorem next_17 (hI : IsW w0 W g fs xs ts lets n f) {at_ : Int} (hat : 0 ≤ at_ ∧ at_ < (f.f3.length : Int)) (hl : f.f3.length ≤ 400) (hOk : OkIns (rd_T37 f.f3 at_)) {s : St} (hs : OkS s) (hm : s.m.length ≤ 1000) {v : Value} (hR : Kd.R k89 89 W w0.heap.size (fun _ => True) v s.m)
    (hop : (rd_T37 f.f3 at_).f0 = 17) :
    Calls Try.prog 29 #[.pointer (some ⟨g, 0, none⟩), .int .i64 at_, .agg #[.int .i64 s.d, v]] W fun e w' => Below W.heap.size W w' ∧ ∃ u b, e = .returned (.tuple #[u, .bool b]) ∧
      NextOut w0 w' u b (nx1 fs xs.length ts.length lets n f (rd_T37 f.f3 at_) at_ s) := by
  have hu45 := Try.underlying45
  have hu32 := Try.underlying32
  have hu37 := Try.underlying37
  have hu52 := Try.underlying52
  have hu69 := Try.underlying69
  have hu30 := Try.underlying30
  have HI := Aside0.mk hI
  have HR := Aside0.mk hR
  obtain ⟨hB0, Af, cf, Ax, cx, At, ct, Ac, cc, hg, h1, h2, h3, h4⟩ := hI
  obtain ⟨A, c, rfl, hc, hC⟩ := Kd.R_reads hR
  obtain ⟨ad, e, hx0, hx1, hx2⟩ := at_T37 h4 at_ hat.1 hat.2
  cases e
  have y0 : ∀ o : Obj, (W.alloc o).cell? (ad.add (at_.toNat * 3)) = some (.int .i64 (rd_T37 f.f3 at_).f0) := fun o => ((below_alloc hB0 o).cell (World.block_lt_of_cell? w0 _ hx0)).trans hx0
  have y1 : ∀ o : Obj, (W.alloc o).cell? ⟨(ad.add (at_.toNat * 3)).block, (ad.add (at_.toNat * 3)).off + 1, none⟩ = some (.int .i64 (rd_T37 f.f3 at_).f1) := fun o => ((below_alloc hB0 o).cell (World.block_lt_of_cell? w0 _ hx1)).trans hx1
  have y2 : ∀ o : Obj, (W.alloc o).cell? ⟨(ad.add (at_.toNat * 3)).block, (ad.add (at_.toNat * 3)).off + 2, none⟩ = some (.int .i64 (rd_T37 f.f3 at_).f2) := fun o => ((below_alloc hB0 o).cell (World.block_lt_of_cell? w0 _ hx2)).trans hx2
  have c8 : ∀ o : Obj, (W.alloc o).cell? ⟨g, 8, none⟩ = some (.slice (some ad) f.f3.length cc) := fun o => (blk_cell (blk_alloc hg o) 8).trans rfl
  have p1 : (0 ≤ at_) = True := eq_true hat.1
  have p2 : (at_ < (f.f3.length : Int)) = True := eq_true hat.2
  have HC := Aside0.mk hC
  have HLC := Aside0.mk hc
  have hb0 := bse_ok hs
  have hT := takes_ok hOk
  have hP := puts_ok (rd_T37 f.f3 at_)
  have hwf : (Lit.int .i64 (rd_T37 f.f3 at_).f0).wf = true := WalkArith.wf_i64 (by have := hOk.1; have := hOk.2.1; omega)
  have w1 : IntKind.i64.wrap (s.d - takesI (rd_T37 f.f3 at_)) = s.d - takesI (rd_T37 f.f3 at_) := by rw [i64_w]; exact w64 _ (by have := hs.1; omega) (by have := hs.2.1; omega)
  have w2 : IntKind.i64.wrap (at_ + 1) = at_ + 1 := by rw [i64_w]; exact w64 _ (by have := hat.1; omega) (by have := hat.2; omega)
  have w3 : IntKind.i64.wrap (putsI (rd_T37 f.f3 at_) - takesI (rd_T37 f.f3 at_)) = putsI (rd_T37 f.f3 at_) - takesI (rd_T37 f.f3 at_) := by rw [i64_w]; exact w64 _ (by omega) (by omega)
  have w4 : wrap64 (s.d + (putsI (rd_T37 f.f3 at_) - takesI (rd_T37 f.f3 at_))) = s.d - takesI (rd_T37 f.f3 at_) + putsI (rd_T37 f.f3 at_) := (w64 _ (by have := hs.1; omega) (by have := hs.2.1; omega)).trans (by omega)
  have HM := Aside0.mk hm
  clear hB0 hg h1 h2 h3 h4 hx0 hx1 hx2 hC hc
  generalize hi : rd_T37 f.f3 at_ = i at *
  clear hi
  go_enter Try.func29, Try.ntmps29
  go_wp2
  have HB := Aside0.mk (below_alloc (below_alloc (Below.refl W.heap.size W) (.cells #[.int .i64 s.d, .slice A s.m.length c] 52)) (.cells #[.int .i64 17, .int .i64 i.f1, .int .i64 i.f2] 37))
  have BS := Aside0.mk (blk_alloc (blk_new W (.cells #[.int .i64 s.d, .slice A s.m.length c] 52)) (.cells #[.int .i64 17, .int .i64 i.f1, .int .i64 i.f2] 37))
  have BI := Aside0.mk (blk_new2 W (.cells #[.int .i64 s.d, .slice A s.m.length c] 52) (.cells #[.int .i64 17, .int .i64 i.f1, .int .i64 i.f2] 37))
  clear y0 y1 y2 c8
  generalize (W.alloc (.cells #[.int .i64 s.d, .slice A s.m.length c] 52)).alloc (.cells #[.int .i64 17, .int .i64 i.f1, .int .i64 i.f2] 37) = W2 at HB BS BI ⊢
  have q0 := (blk_cell BI.out 0).trans rfl
  go_region_held3 (fun w' => w'.cell? ⟨W.heap.size + 1, 0, none⟩ = some (.int .i64 17)) (go_keep) (first
    | (go_at_call 37; (with_reducible refine (v_rules _).mono ?_); rintro e w1 ⟨g1, vs, rfl, hbt, hkeys⟩; obtain ⟨vr, hrun, hvr⟩ := hbt.lookR hkeys 17 (by decide) (by decide); have HB1 := Aside0.mk (below_step (below_drew1 HB.out) hbt.1); have BS1 := Aside0.mk (blk_below (blk_drew BS.out) hbt.1); have BI1 := Aside0.mk (blk_below (blk_drew BI.out) hbt.1); have r0 := (blk_cell BI1.out 0).trans rfl; obtain ⟨F, caps, rfl, he, hcl⟩ := (RuleV.ok hvr : RuleOk w0 w1 g fs xs ts lets n f vr 17); have HCL := Aside0.mk hcl; clear hbt hvr hcl hkeys HB BS BI q0))
  have r1 := (blk_cell BI1.out 1).trans rfl
  have r2 := (blk_cell BI1.out 2).trans rfl
  have hne : ∀ W : World, (binOp .neq 81 (.func (.func F) #[] caps) .nilFunc).run Try.prog W = .ok (.bool true) W := fun W => neq_func F caps W
  go_wp2_with fail
  have hcl2 := HCL.out w1 i (fun _ _ _ _ h => h) (HI.out.below HB1.out) hop
  rw [hop] at hcl2
  refine hcl2.mono ?_
  rintro e w2 ⟨rfl, hb⟩
  have HB2 := Aside0.mk (below_step HB1.out hb)
  have BS2 := Aside0.mk (blk_below BS1.out hb)
  have BI2 := Aside0.mk (blk_below BI1.out hb)
  clear hb HB1 BS1 BI1 r0 r1 r2 he hrun hne HCL hcl2
  have E1 := Aside0.mk (show okI fs xs.length ts.length lets n f i = false → nx1 fs xs.length ts.length lets n f i at_ s = none from fun h => by unfold nx1; rw [h]; rfl)
  have E2 := Aside0.mk (show okI fs xs.length ts.length lets n f i = true → s.d - takesI i < bse s.m → nx1 fs xs.length ts.length lets n f i at_ s = none from fun h1 h2 => by unfold nx1; rw [h1, if_pos rfl, if_pos h2])
  have E3 := Aside0.mk (show okI fs xs.length ts.length lets n f i = true → ¬ s.d - takesI i < bse s.m → nx1 fs xs.length ts.length lets n f i at_ s = goI at_ i s from fun h1 h2 => by unfold nx1; rw [h1, if_pos rfl, if_neg h2])
  generalize okI fs xs.length ts.length lets n f i = okb at *
  cases okb
  · go_wp2
    go_ret2
    exact ⟨HB2.out, .slice none 0 0, false, rfl, by rw [E1.out (by simp)]; exact nextOut_none⟩
  have q0 := (blk_cell BS2.out 0).trans rfl
  have q1 := (blk_cell BS2.out 1).trans rfl
  go_wp2
  by_cases hlt : s.d - takesI i < bse s.m
  · have hlt1 := decide_eq_true hlt
    have HLT := Aside0.mk hlt
    clear hlt
    go_region_held3 (fun w' => w'.cell? ⟨W.heap.size, 0, none⟩ = some (.int .i64 s.d) ∧ w'.cell? ⟨W.heap.size, 1, none⟩ = some (.slice A s.m.length c)) (go_keep) (first
      | (go_at_call 38; (with_reducible refine (verify_state_base.calls s.d A c s.m (bse s.m) _ (Kd.C_drew (Kd.C_below HC.out HB2.out)) HLC.out (base_f (by have := HM.out; omega))).mono ?_); rintro e w3 ⟨rfl, hb⟩; have HB3 := Aside0.mk (below_step (below_drew1 HB2.out) hb); have r0 := (blk_cell (blk_below (blk_drew BS2.out) hb) 0).trans rfl; have r1 := (blk_cell (blk_below (blk_drew BS2.out) hb) 1).trans rfl; clear hb))
    go_wp2
    go_ret2
    exact ⟨HB3.out, .slice none 0 0, false, rfl, by rw [E2.out (by simp) HLT.out]; exact nextOut_none⟩
  have hlt1 := decide_eq_false hlt
  have HLT := Aside0.mk hlt
  clear hlt
  go_region_held3 (fun w' => w'.cell? ⟨W.heap.size, 0, none⟩ = some (.int .i64 s.d) ∧ w'.cell? ⟨W.heap.size, 1, none⟩ = some (.slice A s.m.length c)) (go_keep) (first
    | (go_at_call 38; (with_reducible refine (verify_state_base.calls s.d A c s.m (bse s.m) _ (Kd.C_drew (Kd.C_below HC.out HB2.out)) HLC.out (base_f (by have := HM.out; omega))).mono ?_); rintro e w3 ⟨rfl, hb⟩; have HB3 := Aside0.mk (below_step (below_drew1 HB2.out) hb); have BS3 := Aside0.mk (blk_below (blk_drew BS2.out) hb); have BI3 := Aside0.mk (blk_below (blk_drew BI2.out) hb); have r0 := (blk_cell BS3.out 0).trans rfl; have r1 := (blk_cell BS3.out 1).trans rfl; clear hb))
  clear q0 q1
  have zz : ∀ (w : World) (j : Nat), (w.alloc (.cells #[.int .i64 (at_ + 1), .int .i64 (s.d - takesI i + putsI i), .slice A s.m.length c] 69)).cell? ⟨w.heap.size, j, none⟩ = #[Value.int .i64 (at_ + 1), .int .i64 (s.d - takesI i + putsI i), .slice A s.m.length c][j]? := fun w j => blk_cell (blk_new w _) j
  go_wp2_with (first
    | (go_at_call 39; (with_reducible refine (v_moved _ _ _ _ _ _).mono ?_); rintro e w4 ⟨rfl, hb⟩; have HB4 := Aside0.mk (below_step HB3.out hb); have BS4 := Aside0.mk (blk_below BS3.out hb); have BI4 := Aside0.mk (blk_below BI3.out hb); have u0 : ∀ o : Obj, (w4.alloc o).cell? ⟨W.heap.size + 1, 0, none⟩ = some (.int .i64 17) := fun o => (blk_cell (blk_alloc BI4.out o) 0).trans rfl; have u1 : ∀ o : Obj, (w4.alloc o).cell? ⟨W.heap.size + 1, 1, none⟩ = some (.int .i64 i.f1) := fun o => (blk_cell (blk_alloc BI4.out o) 1).trans rfl; have u2 : ∀ o : Obj, (w4.alloc o).cell? ⟨W.heap.size + 1, 2, none⟩ = some (.int .i64 i.f2) := fun o => (blk_cell (blk_alloc BI4.out o) 2).trans rfl; have v0 : ∀ o : Obj, (w4.alloc o).cell? ⟨W.heap.size, 0, none⟩ = some (.int .i64 s.d) := fun o => (blk_cell (blk_alloc BS4.out o) 0).trans rfl; have v1 : ∀ o : Obj, (w4.alloc o).cell? ⟨W.heap.size, 1, none⟩ = some (.slice A s.m.length c) := fun o => (blk_cell (blk_alloc BS4.out o) 1).trans rfl; clear hb r0 r1))
  go_ret2
  refine ⟨below_alloc (below_alloc HB4.out _) _, _, true, rfl, ?_⟩
  rw [E3.out (by simp) HLT.out]
  unfold goI
  rw [if_neg (by simp [hop]), if_neg (by simp [hop]), if_neg (by simp [hop]), if_pos (by simp [hop])]
  exact ⟨rfl, R69_two (by simp) (Nat.le_trans HI.out.1.size (below_alloc HB4.out _).size) (ofT (at_ + 1, ⟨s.d - takesI i + putsI i, s.m⟩)) (ofT (i.f1, ⟨s.d - takesI i + putsI i, s.m⟩)) (R89_far HR.out (below_alloc HB4.out _)) (R89_far HR.out (below_alloc HB4.out _))⟩
set_option maxHeartbeats 4000000 in
theorem next_18 (hI : IsW w0 W g fs xs ts lets n f) {at_ : Int} (hat : 0 ≤ at_ ∧ at_ < (f.f3.length : Int)) (hl : f.f3.length ≤ 400) (hOk : OkIns (rd_T37 f.f3 at_)) {s : St} (hs : OkS s) (hm : s.m.length ≤ 1000) {v : Value} (hR : Kd.R k89 89 W w0.heap.size (fun _ => True) v s.m)
    (hop : (rd_T37 f.f3 at_).f0 = 18) :
    Calls Try.prog 29 #[.pointer (some ⟨g, 0, none⟩), .int .i64 at_, .agg #[.int .i64 s.d, v]] W fun e w' => Below W.heap.size W w' ∧ ∃ u b, e = .returned (.tuple #[u, .bool b]) ∧
      NextOut w0 w' u b (nx1 fs xs.length ts.length lets n f (rd_T37 f.f3 at_) at_ s) := by
  have hu45 := Try.underlying45
  have hu32 := Try.underlying32
  have hu37 := Try.underlying37
  have hu52 := Try.underlying52
  have hu69 := Try.underlying69
  have hu30 := Try.underlying30
  have HI := Aside0.mk hI
  have HR := Aside0.mk hR
  obtain ⟨hB0, Af, cf, Ax, cx, At, ct, Ac, cc, hg, h1, h2, h3, h4⟩ := hI
  obtain ⟨A, c, rfl, hc, hC⟩ := Kd.R_reads hR
  obtain ⟨ad, e, hx0, hx1, hx2⟩ := at_T37 h4 at_ hat.1 hat.2
  cases e
  have y0 : ∀ o : Obj, (W.alloc o).cell? (ad.add (at_.toNat * 3)) = some (.int .i64 (rd_T37 f.f3 at_).f0) := fun o => ((below_alloc hB0 o).cell (World.block_lt_of_cell? w0 _ hx0)).trans hx0
  have y1 : ∀ o : Obj, (W.alloc o).cell? ⟨(ad.add (at_.toNat * 3)).block, (ad.add (at_.toNat * 3)).off + 1, none⟩ = some (.int .i64 (rd_T37 f.f3 at_).f1) := fun o => ((below_alloc hB0 o).cell (World.block_lt_of_cell? w0 _ hx1)).trans hx1
  have y2 : ∀ o : Obj, (W.alloc o).cell? ⟨(ad.add (at_.toNat * 3)).block, (ad.add (at_.toNat * 3)).off + 2, none⟩ = some (.int .i64 (rd_T37 f.f3 at_).f2) := fun o => ((below_alloc hB0 o).cell (World.block_lt_of_cell? w0 _ hx2)).trans hx2
  have c8 : ∀ o : Obj, (W.alloc o).cell? ⟨g, 8, none⟩ = some (.slice (some ad) f.f3.length cc) := fun o => (blk_cell (blk_alloc hg o) 8).trans rfl
  have p1 : (0 ≤ at_) = True := eq_true hat.1
  have p2 : (at_ < (f.f3.length : Int)) = True := eq_true hat.2
  have HC := Aside0.mk hC
  have HLC := Aside0.mk hc
  have hb0 := bse_ok hs
  have hT := takes_ok hOk
  have hP := puts_ok (rd_T37 f.f3 at_)
  have hwf : (Lit.int .i64 (rd_T37 f.f3 at_).f0).wf = true := WalkArith.wf_i64 (by have := hOk.1; have := hOk.2.1; omega)
  have w1 : IntKind.i64.wrap (s.d - takesI (rd_T37 f.f3 at_)) = s.d - takesI (rd_T37 f.f3 at_) := by rw [i64_w]; exact w64 _ (by have := hs.1; omega) (by have := hs.2.1; omega)
  have w2 : IntKind.i64.wrap (at_ + 1) = at_ + 1 := by rw [i64_w]; exact w64 _ (by have := hat.1; omega) (by have := hat.2; omega)
  have w3 : IntKind.i64.wrap (putsI (rd_T37 f.f3 at_) - takesI (rd_T37 f.f3 at_)) = putsI (rd_T37 f.f3 at_) - takesI (rd_T37 f.f3 at_) := by rw [i64_w]; exact w64 _ (by omega) (by omega)
  have w4 : wrap64 (s.d + (putsI (rd_T37 f.f3 at_) - takesI (rd_T37 f.f3 at_))) = s.d - takesI (rd_T37 f.f3 at_) + putsI (rd_T37 f.f3 at_) := (w64 _ (by have := hs.1; omega) (by have := hs.2.1; omega)).trans (by omega)
  have HM := Aside0.mk hm
  clear hB0 hg h1 h2 h3 h4 hx0 hx1 hx2 hC hc
  generalize hi : rd_T37 f.f3 at_ = i at *
  clear hi
  go_enter Try.func29, Try.ntmps29
  go_wp2
  have HB := Aside0.mk (below_alloc (below_alloc (Below.refl W.heap.size W) (.cells #[.int .i64 s.d, .slice A s.m.length c] 52)) (.cells #[.int .i64 18, .int .i64 i.f1, .int .i64 i.f2] 37))
  have BS := Aside0.mk (blk_alloc (blk_new W (.cells #[.int .i64 s.d, .slice A s.m.length c] 52)) (.cells #[.int .i64 18, .int .i64 i.f1, .int .i64 i.f2] 37))
  have BI := Aside0.mk (blk_new2 W (.cells #[.int .i64 s.d, .slice A s.m.length c] 52) (.cells #[.int .i64 18, .int .i64 i.f1, .int .i64 i.f2] 37))
  clear y0 y1 y2 c8
  generalize (W.alloc (.cells #[.int .i64 s.d, .slice A s.m.length c] 52)).alloc (.cells #[.int .i64 18, .int .i64 i.f1, .int .i64 i.f2] 37) = W2 at HB BS BI ⊢
  have q0 := (blk_cell BI.out 0).trans rfl
  go_region_held3 (fun w' => w'.cell? ⟨W.heap.size + 1, 0, none⟩ = some (.int .i64 18)) (go_keep) (first
    | (go_at_call 37; (with_reducible refine (v_rules _).mono ?_); rintro e w1 ⟨g1, vs, rfl, hbt, hkeys⟩; obtain ⟨vr, hrun, hvr⟩ := hbt.lookR hkeys 18 (by decide) (by decide); have HB1 := Aside0.mk (below_step (below_drew1 HB.out) hbt.1); have BS1 := Aside0.mk (blk_below (blk_drew BS.out) hbt.1); have BI1 := Aside0.mk (blk_below (blk_drew BI.out) hbt.1); have r0 := (blk_cell BI1.out 0).trans rfl; obtain ⟨F, caps, rfl, he, hcl⟩ := (RuleV.ok hvr : RuleOk w0 w1 g fs xs ts lets n f vr 18); have HCL := Aside0.mk hcl; clear hbt hvr hcl hkeys HB BS BI q0))
  have r1 := (blk_cell BI1.out 1).trans rfl
  have r2 := (blk_cell BI1.out 2).trans rfl
  have hne : ∀ W : World, (binOp .neq 81 (.func (.func F) #[] caps) .nilFunc).run Try.prog W = .ok (.bool true) W := fun W => neq_func F caps W
  go_wp2_with fail
  have hcl2 := HCL.out w1 i (fun _ _ _ _ h => h) (HI.out.below HB1.out) hop
  rw [hop] at hcl2
  refine hcl2.mono ?_
  rintro e w2 ⟨rfl, hb⟩
  have HB2 := Aside0.mk (below_step HB1.out hb)
  have BS2 := Aside0.mk (blk_below BS1.out hb)
  have BI2 := Aside0.mk (blk_below BI1.out hb)
  clear hb HB1 BS1 BI1 r0 r1 r2 he hrun hne HCL hcl2
  have E1 := Aside0.mk (show okI fs xs.length ts.length lets n f i = false → nx1 fs xs.length ts.length lets n f i at_ s = none from fun h => by unfold nx1; rw [h]; rfl)
  have E2 := Aside0.mk (show okI fs xs.length ts.length lets n f i = true → s.d - takesI i < bse s.m → nx1 fs xs.length ts.length lets n f i at_ s = none from fun h1 h2 => by unfold nx1; rw [h1, if_pos rfl, if_pos h2])
  have E3 := Aside0.mk (show okI fs xs.length ts.length lets n f i = true → ¬ s.d - takesI i < bse s.m → nx1 fs xs.length ts.length lets n f i at_ s = goI at_ i s from fun h1 h2 => by unfold nx1; rw [h1, if_pos rfl, if_neg h2])
  generalize okI fs xs.length ts.length lets n f i = okb at *
  cases okb
  · go_wp2
    go_ret2
    exact ⟨HB2.out, .slice none 0 0, false, rfl, by rw [E1.out (by simp)]; exact nextOut_none⟩
  have q0 := (blk_cell BS2.out 0).trans rfl
  have q1 := (blk_cell BS2.out 1).trans rfl
  go_wp2
  by_cases hlt : s.d - takesI i < bse s.m
  · have hlt1 := decide_eq_true hlt
    have HLT := Aside0.mk hlt
    clear hlt
    go_region_held3 (fun w' => w'.cell? ⟨W.heap.size, 0, none⟩ = some (.int .i64 s.d) ∧ w'.cell? ⟨W.heap.size, 1, none⟩ = some (.slice A s.m.length c)) (go_keep) (first
      | (go_at_call 38; (with_reducible refine (verify_state_base.calls s.d A c s.m (bse s.m) _ (Kd.C_drew (Kd.C_below HC.out HB2.out)) HLC.out (base_f (by have := HM.out; omega))).mono ?_); rintro e w3 ⟨rfl, hb⟩; have HB3 := Aside0.mk (below_step (below_drew1 HB2.out) hb); have r0 := (blk_cell (blk_below (blk_drew BS2.out) hb) 0).trans rfl; have r1 := (blk_cell (blk_below (blk_drew BS2.out) hb) 1).trans rfl; clear hb))
    go_wp2
    go_ret2
    exact ⟨HB3.out, .slice none 0 0, false, rfl, by rw [E2.out (by simp) HLT.out]; exact nextOut_none⟩
  have hlt1 := decide_eq_false hlt
  have HLT := Aside0.mk hlt
  clear hlt
  go_region_held3 (fun w' => w'.cell? ⟨W.heap.size, 0, none⟩ = some (.int .i64 s.d) ∧ w'.cell? ⟨W.heap.size, 1, none⟩ = some (.slice A s.m.length c)) (go_keep) (first
    | (go_at_call 38; (with_reducible refine (verify_state_base.calls s.d A c s.m (bse s.m) _ (Kd.C_drew (Kd.C_below HC.out HB2.out)) HLC.out (base_f (by have := HM.out; omega))).mono ?_); rintro e w3 ⟨rfl, hb⟩; have HB3 := Aside0.mk (below_step (below_drew1 HB2.out) hb); have BS3 := Aside0.mk (blk_below (blk_drew BS2.out) hb); have BI3 := Aside0.mk (blk_below (blk_drew BI2.out) hb); have r0 := (blk_cell BS3.out 0).trans rfl; have r1 := (blk_cell BS3.out 1).trans rfl; clear hb))
  clear q0 q1
  have zz : ∀ (w : World) (j : Nat), (w.alloc (.cells #[.int .i64 (at_ + 1), .int .i64 (s.d - takesI i + putsI i), .slice A s.m.length c] 69)).cell? ⟨w.heap.size, j, none⟩ = #[Value.int .i64 (at_ + 1), .int .i64 (s.d - takesI i + putsI i), .slice A s.m.length c][j]? := fun w j => blk_cell (blk_new w _) j
  go_wp2_with (first
    | (go_at_call 39; (with_reducible refine (v_moved _ _ _ _ _ _).mono ?_); rintro e w4 ⟨rfl, hb⟩; have HB4 := Aside0.mk (below_step HB3.out hb); have BS4 := Aside0.mk (blk_below BS3.out hb); have BI4 := Aside0.mk (blk_below BI3.out hb); have u0 : ∀ o : Obj, (w4.alloc o).cell? ⟨W.heap.size + 1, 0, none⟩ = some (.int .i64 18) := fun o => (blk_cell (blk_alloc BI4.out o) 0).trans rfl; have u1 : ∀ o : Obj, (w4.alloc o).cell? ⟨W.heap.size + 1, 1, none⟩ = some (.int .i64 i.f1) := fun o => (blk_cell (blk_alloc BI4.out o) 1).trans rfl; have u2 : ∀ o : Obj, (w4.alloc o).cell? ⟨W.heap.size + 1, 2, none⟩ = some (.int .i64 i.f2) := fun o => (blk_cell (blk_alloc BI4.out o) 2).trans rfl; have v0 : ∀ o : Obj, (w4.alloc o).cell? ⟨W.heap.size, 0, none⟩ = some (.int .i64 s.d) := fun o => (blk_cell (blk_alloc BS4.out o) 0).trans rfl; have v1 : ∀ o : Obj, (w4.alloc o).cell? ⟨W.heap.size, 1, none⟩ = some (.slice A s.m.length c) := fun o => (blk_cell (blk_alloc BS4.out o) 1).trans rfl; clear hb r0 r1))
  go_ret2
  refine ⟨below_alloc (below_alloc HB4.out _) _, _, true, rfl, ?_⟩
  rw [E3.out (by simp) HLT.out]
  unfold goI
  rw [if_neg (by simp [hop]), if_neg (by simp [hop]), if_neg (by simp [hop]), if_neg (by simp [hop]), if_pos (by simp [hop])]
  exact ⟨rfl, R69_two (by simp) (Nat.le_trans HI.out.1.size (below_alloc HB4.out _).size) (ofT (at_ + 1, ⟨s.d - takesI i + putsI i, s.m⟩)) (ofT (i.f2, ⟨s.d - takesI i + putsI i, s.m⟩)) (R89_far HR.out (below_alloc HB4.out _)) (R89_far HR.out (below_alloc HB4.out _))⟩
end
end Go.Proofs.Ytnhipgmphhndhaa.Q
namespace Go.Proofs.Ytnhipgmphhndhaa.Q
open Go.RowKit Go.Proofs.YtnhipgmphhndhaaW.PrintWords Go.Proofs.YtnhipgmphhndhaaW.PrintLast Go.Proofs.YtnhipgmphhndhaaW.PrintMore
set_option linter.unusedVariables false
set_option linter.unusedSectionVars false
set_option linter.unusedSimpArgs false
set_option maxRecDepth 100000
/-! ### (*walker).next, by what the Op is -/
section
variable {w0 W : World} {g : Nat} {fs : List S32} {xs : List Int} {ts : List ByteArray} {lets n : Int} {f : S32}
set_option maxHeartbeats 4000000 in
theorem next_21 (hI : IsW w0 W g fs xs ts lets n f) {at_ : Int} (hat : 0 ≤ at_ ∧ at_ < (f.f3.length : Int)) (hl : f.f3.length ≤ 400) (hOk : OkIns (rd_T37 f.f3 at_)) {s : St} (hs : OkS s) (hm : s.m.length ≤ 1000) {v : Value} (hR : Kd.R k89 89 W w0.heap.size (fun _ => True) v s.m)
    (hop : (rd_T37 f.f3 at_).f0 = 21) :
    Calls Try.prog 29 #[.pointer (some ⟨g, 0, none⟩), .int .i64 at_, .agg #[.int .i64 s.d, v]] W fun e w' => Below W.heap.size W w' ∧ ∃ u b, e = .returned (.tuple #[u, .bool b]) ∧
      NextOut w0 w' u b (nx1 fs xs.length ts.length lets n f (rd_T37 f.f3 at_) at_ s) := by
  have hu45 := Try.underlying45
  have hu32 := Try.underlying32
  have hu37 := Try.underlying37
  have hu52 := Try.underlying52
  have hu69 := Try.underlying69
  have hu30 := Try.underlying30
  have HI := Aside0.mk hI
  have HR := Aside0.mk hR
  obtain ⟨hB0, Af, cf, Ax, cx, At, ct, Ac, cc, hg, h1, h2, h3, h4⟩ := hI
  obtain ⟨A, c, rfl, hc, hC⟩ := Kd.R_reads hR
  obtain ⟨ad, e, hx0, hx1, hx2⟩ := at_T37 h4 at_ hat.1 hat.2
  cases e
  have y0 : ∀ o : Obj, (W.alloc o).cell? (ad.add (at_.toNat * 3)) = some (.int .i64 (rd_T37 f.f3 at_).f0) := fun o => ((below_alloc hB0 o).cell (World.block_lt_of_cell? w0 _ hx0)).trans hx0
  have y1 : ∀ o : Obj, (W.alloc o).cell? ⟨(ad.add (at_.toNat * 3)).block, (ad.add (at_.toNat * 3)).off + 1, none⟩ = some (.int .i64 (rd_T37 f.f3 at_).f1) := fun o => ((below_alloc hB0 o).cell (World.block_lt_of_cell? w0 _ hx1)).trans hx1
  have y2 : ∀ o : Obj, (W.alloc o).cell? ⟨(ad.add (at_.toNat * 3)).block, (ad.add (at_.toNat * 3)).off + 2, none⟩ = some (.int .i64 (rd_T37 f.f3 at_).f2) := fun o => ((below_alloc hB0 o).cell (World.block_lt_of_cell? w0 _ hx2)).trans hx2
  have c8 : ∀ o : Obj, (W.alloc o).cell? ⟨g, 8, none⟩ = some (.slice (some ad) f.f3.length cc) := fun o => (blk_cell (blk_alloc hg o) 8).trans rfl
  have p1 : (0 ≤ at_) = True := eq_true hat.1
  have p2 : (at_ < (f.f3.length : Int)) = True := eq_true hat.2
  have HC := Aside0.mk hC
  have HLC := Aside0.mk hc
  have hb0 := bse_ok hs
  have hT := takes_ok hOk
  have hP := puts_ok (rd_T37 f.f3 at_)
  have hwf : (Lit.int .i64 (rd_T37 f.f3 at_).f0).wf = true := WalkArith.wf_i64 (by have := hOk.1; have := hOk.2.1; omega)
  have w1_ : IntKind.i64.wrap (s.d - takesI (rd_T37 f.f3 at_)) = s.d - takesI (rd_T37 f.f3 at_) := by rw [i64_w]; exact w64 _ (by have := hs.1; omega) (by have := hs.2.1; omega)
  have w2 : IntKind.i64.wrap (at_ + 1) = at_ + 1 := by rw [i64_w]; exact w64 _ (by have := hat.1; omega) (by have := hat.2; omega)
  have w3 : IntKind.i64.wrap (putsI (rd_T37 f.f3 at_) - takesI (rd_T37 f.f3 at_)) = putsI (rd_T37 f.f3 at_) - takesI (rd_T37 f.f3 at_) := by rw [i64_w]; exact w64 _ (by omega) (by omega)
  have w4_ : wrap64 (s.d + (putsI (rd_T37 f.f3 at_) - takesI (rd_T37 f.f3 at_))) = s.d - takesI (rd_T37 f.f3 at_) + putsI (rd_T37 f.f3 at_) := (w64 _ (by have := hs.1; omega) (by have := hs.2.1; omega)).trans (by omega)
  have HM := Aside0.mk hm
  clear hB0 hg h1 h2 h3 h4 hx0 hx1 hx2 hC hc
  generalize hi : rd_T37 f.f3 at_ = i at *
  clear hi
  go_enter Try.func29, Try.ntmps29
  go_wp2
  have HB := Aside0.mk (below_alloc (below_alloc (Below.refl W.heap.size W) (.cells #[.int .i64 s.d, .slice A s.m.length c] 52)) (.cells #[.int .i64 21, .int .i64 i.f1, .int .i64 i.f2] 37))
  have BS := Aside0.mk (blk_alloc (blk_new W (.cells #[.int .i64 s.d, .slice A s.m.length c] 52)) (.cells #[.int .i64 21, .int .i64 i.f1, .int .i64 i.f2] 37))
  have BI := Aside0.mk (blk_new2 W (.cells #[.int .i64 s.d, .slice A s.m.length c] 52) (.cells #[.int .i64 21, .int .i64 i.f1, .int .i64 i.f2] 37))
  clear y0 y1 y2 c8
  generalize (W.alloc (.cells #[.int .i64 s.d, .slice A s.m.length c] 52)).alloc (.cells #[.int .i64 21, .int .i64 i.f1, .int .i64 i.f2] 37) = W2 at HB BS BI ⊢
  have q0 := (blk_cell BI.out 0).trans rfl
  have EN := no_rule (fs := fs) (xs := xs) (ts := ts) (lets := lets) (n := n) (f := f) (i := i) hOk.1 (by rw [hop]; decide)
  have E2 := Aside0.mk (show s.d < bse s.m → nx1 fs xs.length ts.length lets n f i at_ s = none from fun h2 => by unfold nx1; rw [EN.1, if_pos rfl, EN.2.1, if_pos (by omega)])
  have E3 := Aside0.mk (show ¬ s.d < bse s.m → nx1 fs xs.length ts.length lets n f i at_ s = goI at_ i s from fun h2 => by unfold nx1; rw [EN.1, if_pos rfl, EN.2.1, if_neg (by omega)])
  have w1 : IntKind.i64.wrap s.d = s.d := by rw [i64_w]; exact w64 _ (by have := hs.1; omega) (by have := hs.2.1; omega)
  have w4 : wrap64 s.d = s.d := w64 _ (by have := hs.1; omega) (by have := hs.2.1; omega)
  clear w3 w1_ w4_ hT hP EN
  go_region_held3 (fun w' => w'.cell? ⟨W.heap.size + 1, 0, none⟩ = some (.int .i64 21)) (go_keep) (first
    | (go_at_call 37; (with_reducible refine (v_rules _).mono ?_); rintro e w2 ⟨g1, vs, rfl, hbt, hkeys⟩; have hrun := hbt.lookN 21 (by decide) (fun v => by simp [RuleV]); have HB2 := Aside0.mk (below_step (below_drew1 HB.out) hbt.1); have BS2 := Aside0.mk (blk_below (blk_drew BS.out) hbt.1); have BI2 := Aside0.mk (blk_below (blk_drew BI.out) hbt.1); have r0 := (blk_cell BI2.out 0).trans rfl; clear hbt hkeys HB BS BI q0))
  have hne := neq_nil
  have q0 := (blk_cell BS2.out 0).trans rfl
  have q1 := (blk_cell BS2.out 1).trans rfl
  go_wp2
  clear hrun hne r0
  by_cases hlt : s.d < bse s.m
  · have hlt1 := decide_eq_true hlt
    have HLT := Aside0.mk hlt
    clear hlt
    go_region_held3 (fun w' => w'.cell? ⟨W.heap.size, 0, none⟩ = some (.int .i64 s.d) ∧ w'.cell? ⟨W.heap.size, 1, none⟩ = some (.slice A s.m.length c)) (go_keep) (first
      | (go_at_call 38; (with_reducible refine (verify_state_base.calls s.d A c s.m (bse s.m) _ (Kd.C_drew (Kd.C_below HC.out HB2.out)) HLC.out (base_f (by have := HM.out; omega))).mono ?_); rintro e w3 ⟨rfl, hb⟩; have HB3 := Aside0.mk (below_step (below_drew1 HB2.out) hb); have r0 := (blk_cell (blk_below (blk_drew BS2.out) hb) 0).trans rfl; have r1 := (blk_cell (blk_below (blk_drew BS2.out) hb) 1).trans rfl; clear hb))
    go_wp2
    go_ret2
    exact ⟨HB3.out, .slice none 0 0, false, rfl, by rw [E2.out HLT.out]; exact nextOut_none⟩
  have hlt1 := decide_eq_false hlt
  have HLT := Aside0.mk hlt
  clear hlt
  go_region_held3 (fun w' => w'.cell? ⟨W.heap.size, 0, none⟩ = some (.int .i64 s.d) ∧ w'.cell? ⟨W.heap.size, 1, none⟩ = some (.slice A s.m.length c)) (go_keep) (first
    | (go_at_call 38; (with_reducible refine (verify_state_base.calls s.d A c s.m (bse s.m) _ (Kd.C_drew (Kd.C_below HC.out HB2.out)) HLC.out (base_f (by have := HM.out; omega))).mono ?_); rintro e w3 ⟨rfl, hb⟩; have HB3 := Aside0.mk (below_step (below_drew1 HB2.out) hb); have BS3 := Aside0.mk (blk_below (blk_drew BS2.out) hb); have BI3 := Aside0.mk (blk_below (blk_drew BI2.out) hb); have r0 := (blk_cell BS3.out 0).trans rfl; have r1 := (blk_cell BS3.out 1).trans rfl; clear hb))
  clear q0 q1
  go_wp2_with (first
    | (go_at_call 39; (with_reducible refine (v_moved _ _ _ _ _ _).mono ?_); rintro e w4 ⟨rfl, hb⟩; have HB4 := Aside0.mk (below_step HB3.out hb); have BS4 := Aside0.mk (blk_below BS3.out hb); have BI4 := Aside0.mk (blk_below BI3.out hb); have u0 : ∀ o : Obj, (w4.alloc o).cell? ⟨W.heap.size + 1, 0, none⟩ = some (.int .i64 21) := fun o => (blk_cell (blk_alloc BI4.out o) 0).trans rfl; have u1 : ∀ o : Obj, (w4.alloc o).cell? ⟨W.heap.size + 1, 1, none⟩ = some (.int .i64 i.f1) := fun o => (blk_cell (blk_alloc BI4.out o) 1).trans rfl; have u2 : ∀ o : Obj, (w4.alloc o).cell? ⟨W.heap.size + 1, 2, none⟩ = some (.int .i64 i.f2) := fun o => (blk_cell (blk_alloc BI4.out o) 2).trans rfl; have v0 : ∀ o : Obj, (w4.alloc o).cell? ⟨W.heap.size, 0, none⟩ = some (.int .i64 s.d) := fun o => (blk_cell (blk_alloc BS4.out o) 0).trans rfl; have v1 : ∀ o : Obj, (w4.alloc o).cell? ⟨W.heap.size, 1, none⟩ = some (.slice A s.m.length c) := fun o => (blk_cell (blk_alloc BS4.out o) 1).trans rfl; clear hb r0 r1))
  have BS5 := Aside0.mk (blk_alloc BS4.out (.cells #[.int .i64 (at_ + 1), .int .i64 s.d, .slice A s.m.length c] 69))
  have BI5 := Aside0.mk (blk_alloc BI4.out (.cells #[.int .i64 (at_ + 1), .int .i64 s.d, .slice A s.m.length c] 69))
  have HB5 := Aside0.mk (below_alloc HB4.out (.cells #[.int .i64 (at_ + 1), .int .i64 s.d, .slice A s.m.length c] 69))
  have x1 := v1 (.cells #[.int .i64 (at_ + 1), .int .i64 s.d, .slice A s.m.length c] 69)
  have x0 := v0 (.cells #[.int .i64 (at_ + 1), .int .i64 s.d, .slice A s.m.length c] 69)
  have y0 := u0 (.cells #[.int .i64 (at_ + 1), .int .i64 s.d, .slice A s.m.length c] 69)
  have y1 := u1 (.cells #[.int .i64 (at_ + 1), .int .i64 s.d, .slice A s.m.length c] 69)
  have y2 := u2 (.cells #[.int .i64 (at_ + 1), .int .i64 s.d, .slice A s.m.length c] 69)
  have z0 := (blk_cell (blk_new w4 (.cells #[.int .i64 (at_ + 1), .int .i64 s.d, .slice A s.m.length c] 69)) 0).trans rfl
  have z1 := (blk_cell (blk_new w4 (.cells #[.int .i64 (at_ + 1), .int .i64 s.d, .slice A s.m.length c] 69)) 1).trans rfl
  have z2 := (blk_cell (blk_new w4 (.cells #[.int .i64 (at_ + 1), .int .i64 s.d, .slice A s.m.length c] 69)) 2).trans rfl
  clear u0 u1 u2 v0 v1
  generalize w4.alloc (.cells #[.int .i64 (at_ + 1), .int .i64 s.d, .slice A s.m.length c] 69) = w5 at HB5 BS5 BI5 x0 x1 y0 y1 y2 z0 z1 z2 ⊢
  have w5_ : wrap64 (s.d + 1) = s.d + 1 := w64 _ (by have := hs.1; omega) (by have := hs.2.1; omega)
  go_region_held3 (fun w' => w'.cell? ⟨W.heap.size, 0, none⟩ = some (.int .i64 s.d) ∧ w'.cell? ⟨W.heap.size, 1, none⟩ = some (.slice A s.m.length c) ∧ w'.cell? ⟨W.heap.size + 1, 0, none⟩ = some (.int .i64 21) ∧ w'.cell? ⟨W.heap.size + 1, 1, none⟩ = some (.int .i64 i.f1)) (go_keep) (first
    | (go_at_call 40; (with_reducible refine (v_with s.d 21 A c s.m _ (Kd.C_drew (Kd.C_below HC.out HB5.out)) HLC.out (by have := HM.out; omega)).mono ?_); rintro e w6 ⟨vw, rfl, hw, hb⟩; obtain ⟨Aw, cw, rfl, hcw, hCw⟩ := Kd.R_reads hw; rw [show (s.m ++ [(⟨21, s.d⟩ : S89)]).length = s.m.length + 1 from by simp] at hw; have HB6 := Aside0.mk (below_step (below_drew1 HB5.out) hb); have HW := Aside0.mk (Kd.R_lower hw (Nat.le_trans HI.out.1.size (below_drew1 HB5.out).size)); have BS6 := Aside0.mk (blk_below (blk_drew BS5.out) hb); have BI6 := Aside0.mk (blk_below (blk_drew BI5.out) hb); have r0 := (blk_cell BS6.out 0).trans rfl; have r1 := (blk_cell BS6.out 1).trans rfl; have r2 := (blk_cell BI6.out 0).trans rfl; have r3 := (blk_cell BI6.out 1).trans rfl; clear hb hw hcw hCw)
    | (go_at_call 39; (with_reducible refine (v_moved _ _ _ _ _ _).mono ?_); rintro e w7 ⟨rfl, hb⟩; have HB7 := Aside0.mk (below_step HB6.out hb); have HW7 := Aside0.mk (Kd.R_below HW.out hb); have t0 := (blk_cell (blk_below BS6.out hb) 0).trans rfl; have t1 := (blk_cell (blk_below BS6.out hb) 1).trans rfl; have t2 := (blk_cell (blk_below BI6.out hb) 0).trans rfl; have t3 := (blk_cell (blk_below BI6.out hb) 1).trans rfl; clear hb))
  go_wp2
  go_ret2
  refine ⟨below_alloc HB7.out _, _, true, rfl, ?_⟩
  rw [E3.out HLT.out]
  unfold goI
  rw [if_neg (by simp [hop]), if_neg (by simp [hop]), if_neg (by simp [hop]), if_neg (by simp [hop]), if_neg (by simp [hop]), if_pos (by simp [hop])]
  exact ⟨rfl, R69_two (by simp) (Nat.le_trans HI.out.1.size HB7.out.size) (ofT (at_ + 1, ⟨s.d, s.m ++ [(⟨21, s.d⟩ : S89)]⟩)) (ofT (i.f1, ⟨s.d + 1, s.m⟩)) HW7.out (R89_far HR.out HB7.out)⟩
set_option maxHeartbeats 4000000 in
theorem next_28 (hI : IsW w0 W g fs xs ts lets n f) {at_ : Int} (hat : 0 ≤ at_ ∧ at_ < (f.f3.length : Int)) (hl : f.f3.length ≤ 400) (hOk : OkIns (rd_T37 f.f3 at_)) {s : St} (hs : OkS s) (hm : s.m.length ≤ 1000) {v : Value} (hR : Kd.R k89 89 W w0.heap.size (fun _ => True) v s.m)
    (hop : (rd_T37 f.f3 at_).f0 = 28) :
    Calls Try.prog 29 #[.pointer (some ⟨g, 0, none⟩), .int .i64 at_, .agg #[.int .i64 s.d, v]] W fun e w' => Below W.heap.size W w' ∧ ∃ u b, e = .returned (.tuple #[u, .bool b]) ∧
      NextOut w0 w' u b (nx1 fs xs.length ts.length lets n f (rd_T37 f.f3 at_) at_ s) := by
  have hu45 := Try.underlying45
  have hu32 := Try.underlying32
  have hu37 := Try.underlying37
  have hu52 := Try.underlying52
  have hu69 := Try.underlying69
  have hu30 := Try.underlying30
  have HI := Aside0.mk hI
  have HR := Aside0.mk hR
  obtain ⟨hB0, Af, cf, Ax, cx, At, ct, Ac, cc, hg, h1, h2, h3, h4⟩ := hI
  obtain ⟨A, c, rfl, hc, hC⟩ := Kd.R_reads hR
  obtain ⟨ad, e, hx0, hx1, hx2⟩ := at_T37 h4 at_ hat.1 hat.2
  cases e
  have y0 : ∀ o : Obj, (W.alloc o).cell? (ad.add (at_.toNat * 3)) = some (.int .i64 (rd_T37 f.f3 at_).f0) := fun o => ((below_alloc hB0 o).cell (World.block_lt_of_cell? w0 _ hx0)).trans hx0
  have y1 : ∀ o : Obj, (W.alloc o).cell? ⟨(ad.add (at_.toNat * 3)).block, (ad.add (at_.toNat * 3)).off + 1, none⟩ = some (.int .i64 (rd_T37 f.f3 at_).f1) := fun o => ((below_alloc hB0 o).cell (World.block_lt_of_cell? w0 _ hx1)).trans hx1
  have y2 : ∀ o : Obj, (W.alloc o).cell? ⟨(ad.add (at_.toNat * 3)).block, (ad.add (at_.toNat * 3)).off + 2, none⟩ = some (.int .i64 (rd_T37 f.f3 at_).f2) := fun o => ((below_alloc hB0 o).cell (World.block_lt_of_cell? w0 _ hx2)).trans hx2
  have c8 : ∀ o : Obj, (W.alloc o).cell? ⟨g, 8, none⟩ = some (.slice (some ad) f.f3.length cc) := fun o => (blk_cell (blk_alloc hg o) 8).trans rfl
  have p1 : (0 ≤ at_) = True := eq_true hat.1
  have p2 : (at_ < (f.f3.length : Int)) = True := eq_true hat.2
  have HC := Aside0.mk hC
  have HLC := Aside0.mk hc
  have hb0 := bse_ok hs
  have hT := takes_ok hOk
  have hP := puts_ok (rd_T37 f.f3 at_)
  have hwf : (Lit.int .i64 (rd_T37 f.f3 at_).f0).wf = true := WalkArith.wf_i64 (by have := hOk.1; have := hOk.2.1; omega)
  have w1_ : IntKind.i64.wrap (s.d - takesI (rd_T37 f.f3 at_)) = s.d - takesI (rd_T37 f.f3 at_) := by rw [i64_w]; exact w64 _ (by have := hs.1; omega) (by have := hs.2.1; omega)
  have w2 : IntKind.i64.wrap (at_ + 1) = at_ + 1 := by rw [i64_w]; exact w64 _ (by have := hat.1; omega) (by have := hat.2; omega)
  have w3 : IntKind.i64.wrap (putsI (rd_T37 f.f3 at_) - takesI (rd_T37 f.f3 at_)) = putsI (rd_T37 f.f3 at_) - takesI (rd_T37 f.f3 at_) := by rw [i64_w]; exact w64 _ (by omega) (by omega)
  have w4_ : wrap64 (s.d + (putsI (rd_T37 f.f3 at_) - takesI (rd_T37 f.f3 at_))) = s.d - takesI (rd_T37 f.f3 at_) + putsI (rd_T37 f.f3 at_) := (w64 _ (by have := hs.1; omega) (by have := hs.2.1; omega)).trans (by omega)
  have HM := Aside0.mk hm
  clear hB0 hg h1 h2 h3 h4 hx0 hx1 hx2 hC hc
  generalize hi : rd_T37 f.f3 at_ = i at *
  clear hi
  go_enter Try.func29, Try.ntmps29
  go_wp2
  have HB := Aside0.mk (below_alloc (below_alloc (Below.refl W.heap.size W) (.cells #[.int .i64 s.d, .slice A s.m.length c] 52)) (.cells #[.int .i64 28, .int .i64 i.f1, .int .i64 i.f2] 37))
  have BS := Aside0.mk (blk_alloc (blk_new W (.cells #[.int .i64 s.d, .slice A s.m.length c] 52)) (.cells #[.int .i64 28, .int .i64 i.f1, .int .i64 i.f2] 37))
  have BI := Aside0.mk (blk_new2 W (.cells #[.int .i64 s.d, .slice A s.m.length c] 52) (.cells #[.int .i64 28, .int .i64 i.f1, .int .i64 i.f2] 37))
  clear y0 y1 y2 c8
  generalize (W.alloc (.cells #[.int .i64 s.d, .slice A s.m.length c] 52)).alloc (.cells #[.int .i64 28, .int .i64 i.f1, .int .i64 i.f2] 37) = W2 at HB BS BI ⊢
  have q0 := (blk_cell BI.out 0).trans rfl
  have EN := no_rule (fs := fs) (xs := xs) (ts := ts) (lets := lets) (n := n) (f := f) (i := i) hOk.1 (by rw [hop]; decide)
  have E2 := Aside0.mk (show s.d < bse s.m → nx1 fs xs.length ts.length lets n f i at_ s = none from fun h2 => by unfold nx1; rw [EN.1, if_pos rfl, EN.2.1, if_pos (by omega)])
  have E3 := Aside0.mk (show ¬ s.d < bse s.m → nx1 fs xs.length ts.length lets n f i at_ s = goI at_ i s from fun h2 => by unfold nx1; rw [EN.1, if_pos rfl, EN.2.1, if_neg (by omega)])
  have w1 : IntKind.i64.wrap s.d = s.d := by rw [i64_w]; exact w64 _ (by have := hs.1; omega) (by have := hs.2.1; omega)
  have w4 : wrap64 s.d = s.d := w64 _ (by have := hs.1; omega) (by have := hs.2.1; omega)
  clear w3 w1_ w4_ hT hP EN
  go_region_held3 (fun w' => w'.cell? ⟨W.heap.size + 1, 0, none⟩ = some (.int .i64 28)) (go_keep) (first
    | (go_at_call 37; (with_reducible refine (v_rules _).mono ?_); rintro e w2 ⟨g1, vs, rfl, hbt, hkeys⟩; have hrun := hbt.lookN 28 (by decide) (fun v => by simp [RuleV]); have HB2 := Aside0.mk (below_step (below_drew1 HB.out) hbt.1); have BS2 := Aside0.mk (blk_below (blk_drew BS.out) hbt.1); have BI2 := Aside0.mk (blk_below (blk_drew BI.out) hbt.1); have r0 := (blk_cell BI2.out 0).trans rfl; clear hbt hkeys HB BS BI q0))
  have hne := neq_nil
  have q0 := (blk_cell BS2.out 0).trans rfl
  have q1 := (blk_cell BS2.out 1).trans rfl
  go_wp2
  clear hrun hne r0
  by_cases hlt : s.d < bse s.m
  · have hlt1 := decide_eq_true hlt
    have HLT := Aside0.mk hlt
    clear hlt
    go_region_held3 (fun w' => w'.cell? ⟨W.heap.size, 0, none⟩ = some (.int .i64 s.d) ∧ w'.cell? ⟨W.heap.size, 1, none⟩ = some (.slice A s.m.length c)) (go_keep) (first
      | (go_at_call 38; (with_reducible refine (verify_state_base.calls s.d A c s.m (bse s.m) _ (Kd.C_drew (Kd.C_below HC.out HB2.out)) HLC.out (base_f (by have := HM.out; omega))).mono ?_); rintro e w3 ⟨rfl, hb⟩; have HB3 := Aside0.mk (below_step (below_drew1 HB2.out) hb); have r0 := (blk_cell (blk_below (blk_drew BS2.out) hb) 0).trans rfl; have r1 := (blk_cell (blk_below (blk_drew BS2.out) hb) 1).trans rfl; clear hb))
    go_wp2
    go_ret2
    exact ⟨HB3.out, .slice none 0 0, false, rfl, by rw [E2.out HLT.out]; exact nextOut_none⟩
  have hlt1 := decide_eq_false hlt
  have HLT := Aside0.mk hlt
  clear hlt
  go_region_held3 (fun w' => w'.cell? ⟨W.heap.size, 0, none⟩ = some (.int .i64 s.d) ∧ w'.cell? ⟨W.heap.size, 1, none⟩ = some (.slice A s.m.length c)) (go_keep) (first
    | (go_at_call 38; (with_reducible refine (verify_state_base.calls s.d A c s.m (bse s.m) _ (Kd.C_drew (Kd.C_below HC.out HB2.out)) HLC.out (base_f (by have := HM.out; omega))).mono ?_); rintro e w3 ⟨rfl, hb⟩; have HB3 := Aside0.mk (below_step (below_drew1 HB2.out) hb); have BS3 := Aside0.mk (blk_below (blk_drew BS2.out) hb); have BI3 := Aside0.mk (blk_below (blk_drew BI2.out) hb); have r0 := (blk_cell BS3.out 0).trans rfl; have r1 := (blk_cell BS3.out 1).trans rfl; clear hb))
  clear q0 q1
  go_wp2_with (first
    | (go_at_call 39; (with_reducible refine (v_moved _ _ _ _ _ _).mono ?_); rintro e w4 ⟨rfl, hb⟩; have HB4 := Aside0.mk (below_step HB3.out hb); have BS4 := Aside0.mk (blk_below BS3.out hb); have BI4 := Aside0.mk (blk_below BI3.out hb); have u0 : ∀ o : Obj, (w4.alloc o).cell? ⟨W.heap.size + 1, 0, none⟩ = some (.int .i64 28) := fun o => (blk_cell (blk_alloc BI4.out o) 0).trans rfl; have u1 : ∀ o : Obj, (w4.alloc o).cell? ⟨W.heap.size + 1, 1, none⟩ = some (.int .i64 i.f1) := fun o => (blk_cell (blk_alloc BI4.out o) 1).trans rfl; have u2 : ∀ o : Obj, (w4.alloc o).cell? ⟨W.heap.size + 1, 2, none⟩ = some (.int .i64 i.f2) := fun o => (blk_cell (blk_alloc BI4.out o) 2).trans rfl; have v0 : ∀ o : Obj, (w4.alloc o).cell? ⟨W.heap.size, 0, none⟩ = some (.int .i64 s.d) := fun o => (blk_cell (blk_alloc BS4.out o) 0).trans rfl; have v1 : ∀ o : Obj, (w4.alloc o).cell? ⟨W.heap.size, 1, none⟩ = some (.slice A s.m.length c) := fun o => (blk_cell (blk_alloc BS4.out o) 1).trans rfl; clear hb r0 r1))
  have BS5 := Aside0.mk (blk_alloc BS4.out (.cells #[.int .i64 (at_ + 1), .int .i64 s.d, .slice A s.m.length c] 69))
  have BI5 := Aside0.mk (blk_alloc BI4.out (.cells #[.int .i64 (at_ + 1), .int .i64 s.d, .slice A s.m.length c] 69))
  have HB5 := Aside0.mk (below_alloc HB4.out (.cells #[.int .i64 (at_ + 1), .int .i64 s.d, .slice A s.m.length c] 69))
  have x1 := v1 (.cells #[.int .i64 (at_ + 1), .int .i64 s.d, .slice A s.m.length c] 69)
  have x0 := v0 (.cells #[.int .i64 (at_ + 1), .int .i64 s.d, .slice A s.m.length c] 69)
  have y0 := u0 (.cells #[.int .i64 (at_ + 1), .int .i64 s.d, .slice A s.m.length c] 69)
  have y1 := u1 (.cells #[.int .i64 (at_ + 1), .int .i64 s.d, .slice A s.m.length c] 69)
  have y2 := u2 (.cells #[.int .i64 (at_ + 1), .int .i64 s.d, .slice A s.m.length c] 69)
  have z0 := (blk_cell (blk_new w4 (.cells #[.int .i64 (at_ + 1), .int .i64 s.d, .slice A s.m.length c] 69)) 0).trans rfl
  have z1 := (blk_cell (blk_new w4 (.cells #[.int .i64 (at_ + 1), .int .i64 s.d, .slice A s.m.length c] 69)) 1).trans rfl
  have z2 := (blk_cell (blk_new w4 (.cells #[.int .i64 (at_ + 1), .int .i64 s.d, .slice A s.m.length c] 69)) 2).trans rfl
  clear u0 u1 u2 v0 v1
  generalize w4.alloc (.cells #[.int .i64 (at_ + 1), .int .i64 s.d, .slice A s.m.length c] 69) = w5 at HB5 BS5 BI5 x0 x1 y0 y1 y2 z0 z1 z2 ⊢
  have w5_ : wrap64 (s.d + 1) = s.d + 1 := w64 _ (by have := hs.1; omega) (by have := hs.2.1; omega)
  go_region_held3 (fun w' => w'.cell? ⟨W.heap.size, 0, none⟩ = some (.int .i64 s.d) ∧ w'.cell? ⟨W.heap.size, 1, none⟩ = some (.slice A s.m.length c) ∧ w'.cell? ⟨W.heap.size + 1, 0, none⟩ = some (.int .i64 28) ∧ w'.cell? ⟨W.heap.size + 1, 1, none⟩ = some (.int .i64 i.f1)) (go_keep) (first
    | (go_at_call 40; (with_reducible refine (v_with s.d 28 A c s.m _ (Kd.C_drew (Kd.C_below HC.out HB5.out)) HLC.out (by have := HM.out; omega)).mono ?_); rintro e w6 ⟨vw, rfl, hw, hb⟩; obtain ⟨Aw, cw, rfl, hcw, hCw⟩ := Kd.R_reads hw; rw [show (s.m ++ [(⟨28, s.d⟩ : S89)]).length = s.m.length + 1 from by simp] at hw; have HB6 := Aside0.mk (below_step (below_drew1 HB5.out) hb); have HW := Aside0.mk (Kd.R_lower hw (Nat.le_trans HI.out.1.size (below_drew1 HB5.out).size)); have BS6 := Aside0.mk (blk_below (blk_drew BS5.out) hb); have BI6 := Aside0.mk (blk_below (blk_drew BI5.out) hb); have r0 := (blk_cell BS6.out 0).trans rfl; have r1 := (blk_cell BS6.out 1).trans rfl; have r2 := (blk_cell BI6.out 0).trans rfl; have r3 := (blk_cell BI6.out 1).trans rfl; have HB7 := Aside0.mk HB6.out; have HW7 := Aside0.mk HW.out; clear hb hw hcw hCw))
  go_wp2
  go_ret2
  refine ⟨below_alloc HB7.out _, _, true, rfl, ?_⟩
  rw [E3.out HLT.out]
  unfold goI
  rw [if_neg (by simp [hop]), if_neg (by simp [hop]), if_neg (by simp [hop]), if_neg (by simp [hop]), if_neg (by simp [hop]), if_neg (by simp [hop]), if_pos (by simp [hop])]
  exact ⟨rfl, R69_two (by simp) (Nat.le_trans HI.out.1.size HB7.out.size) (ofT (at_ + 1, ⟨s.d, s.m ++ [(⟨28, s.d⟩ : S89)]⟩)) (ofT (i.f1, s)) HW7.out (R89_far HR.out HB7.out)⟩
set_option maxHeartbeats 4000000 in
theorem next_26 (hI : IsW w0 W g fs xs ts lets n f) {at_ : Int} (hat : 0 ≤ at_ ∧ at_ < (f.f3.length : Int)) (hl : f.f3.length ≤ 400) (hOk : OkIns (rd_T37 f.f3 at_)) {s : St} (hs : OkS s) (hm : s.m.length ≤ 1000) {v : Value} (hR : Kd.R k89 89 W w0.heap.size (fun _ => True) v s.m)
    (hop : (rd_T37 f.f3 at_).f0 = 26) :
    Calls Try.prog 29 #[.pointer (some ⟨g, 0, none⟩), .int .i64 at_, .agg #[.int .i64 s.d, v]] W fun e w' => Below W.heap.size W w' ∧ ∃ u b, e = .returned (.tuple #[u, .bool b]) ∧
      NextOut w0 w' u b (nx1 fs xs.length ts.length lets n f (rd_T37 f.f3 at_) at_ s) := by
  have hu45 := Try.underlying45
  have hu32 := Try.underlying32
  have hu37 := Try.underlying37
  have hu52 := Try.underlying52
  have hu69 := Try.underlying69
  have hu30 := Try.underlying30
  have HI := Aside0.mk hI
  have HR := Aside0.mk hR
  obtain ⟨hB0, Af, cf, Ax, cx, At, ct, Ac, cc, hg, h1, h2, h3, h4⟩ := hI
  obtain ⟨A, c, rfl, hc, hC⟩ := Kd.R_reads hR
  obtain ⟨ad, e, hx0, hx1, hx2⟩ := at_T37 h4 at_ hat.1 hat.2
  cases e
  have y0 : ∀ o : Obj, (W.alloc o).cell? (ad.add (at_.toNat * 3)) = some (.int .i64 (rd_T37 f.f3 at_).f0) := fun o => ((below_alloc hB0 o).cell (World.block_lt_of_cell? w0 _ hx0)).trans hx0
  have y1 : ∀ o : Obj, (W.alloc o).cell? ⟨(ad.add (at_.toNat * 3)).block, (ad.add (at_.toNat * 3)).off + 1, none⟩ = some (.int .i64 (rd_T37 f.f3 at_).f1) := fun o => ((below_alloc hB0 o).cell (World.block_lt_of_cell? w0 _ hx1)).trans hx1
  have y2 : ∀ o : Obj, (W.alloc o).cell? ⟨(ad.add (at_.toNat * 3)).block, (ad.add (at_.toNat * 3)).off + 2, none⟩ = some (.int .i64 (rd_T37 f.f3 at_).f2) := fun o => ((below_alloc hB0 o).cell (World.block_lt_of_cell? w0 _ hx2)).trans hx2
  have c8 : ∀ o : Obj, (W.alloc o).cell? ⟨g, 8, none⟩ = some (.slice (some ad) f.f3.length cc) := fun o => (blk_cell (blk_alloc hg o) 8).trans rfl
  have p1 : (0 ≤ at_) = True := eq_true hat.1
  have p2 : (at_ < (f.f3.length : Int)) = True := eq_true hat.2
  have HC := Aside0.mk hC
  have HLC := Aside0.mk hc
  have hb0 := bse_ok hs
  have hT := takes_ok hOk
  have hP := puts_ok (rd_T37 f.f3 at_)
  have hwf : (Lit.int .i64 (rd_T37 f.f3 at_).f0).wf = true := WalkArith.wf_i64 (by have := hOk.1; have := hOk.2.1; omega)
  have w1_ : IntKind.i64.wrap (s.d - takesI (rd_T37 f.f3 at_)) = s.d - takesI (rd_T37 f.f3 at_) := by rw [i64_w]; exact w64 _ (by have := hs.1; omega) (by have := hs.2.1; omega)
  have w2 : IntKind.i64.wrap (at_ + 1) = at_ + 1 := by rw [i64_w]; exact w64 _ (by have := hat.1; omega) (by have := hat.2; omega)
  have w3 : IntKind.i64.wrap (putsI (rd_T37 f.f3 at_) - takesI (rd_T37 f.f3 at_)) = putsI (rd_T37 f.f3 at_) - takesI (rd_T37 f.f3 at_) := by rw [i64_w]; exact w64 _ (by omega) (by omega)
  have w4_ : wrap64 (s.d + (putsI (rd_T37 f.f3 at_) - takesI (rd_T37 f.f3 at_))) = s.d - takesI (rd_T37 f.f3 at_) + putsI (rd_T37 f.f3 at_) := (w64 _ (by have := hs.1; omega) (by have := hs.2.1; omega)).trans (by omega)
  have HM := Aside0.mk hm
  clear hB0 hg h1 h2 h3 h4 hx0 hx1 hx2 hC hc
  generalize hi : rd_T37 f.f3 at_ = i at *
  clear hi
  go_enter Try.func29, Try.ntmps29
  go_wp2
  have HB := Aside0.mk (below_alloc (below_alloc (Below.refl W.heap.size W) (.cells #[.int .i64 s.d, .slice A s.m.length c] 52)) (.cells #[.int .i64 26, .int .i64 i.f1, .int .i64 i.f2] 37))
  have BS := Aside0.mk (blk_alloc (blk_new W (.cells #[.int .i64 s.d, .slice A s.m.length c] 52)) (.cells #[.int .i64 26, .int .i64 i.f1, .int .i64 i.f2] 37))
  have BI := Aside0.mk (blk_new2 W (.cells #[.int .i64 s.d, .slice A s.m.length c] 52) (.cells #[.int .i64 26, .int .i64 i.f1, .int .i64 i.f2] 37))
  clear y0 y1 y2 c8
  generalize (W.alloc (.cells #[.int .i64 s.d, .slice A s.m.length c] 52)).alloc (.cells #[.int .i64 26, .int .i64 i.f1, .int .i64 i.f2] 37) = W2 at HB BS BI ⊢
  have q0 := (blk_cell BI.out 0).trans rfl
  have EN := no_rule (fs := fs) (xs := xs) (ts := ts) (lets := lets) (n := n) (f := f) (i := i) hOk.1 (by rw [hop]; decide)
  have E2 := Aside0.mk (show s.d < bse s.m → nx1 fs xs.length ts.length lets n f i at_ s = none from fun h2 => by unfold nx1; rw [EN.1, if_pos rfl, EN.2.1, if_pos (by omega)])
  have E3 := Aside0.mk (show ¬ s.d < bse s.m → nx1 fs xs.length ts.length lets n f i at_ s = goI at_ i s from fun h2 => by unfold nx1; rw [EN.1, if_pos rfl, EN.2.1, if_neg (by omega)])
  have w1 : IntKind.i64.wrap s.d = s.d := by rw [i64_w]; exact w64 _ (by have := hs.1; omega) (by have := hs.2.1; omega)
  have w4 : wrap64 s.d = s.d := w64 _ (by have := hs.1; omega) (by have := hs.2.1; omega)
  clear w3 w1_ w4_ hT hP EN
  go_region_held3 (fun w' => w'.cell? ⟨W.heap.size + 1, 0, none⟩ = some (.int .i64 26)) (go_keep) (first
    | (go_at_call 37; (with_reducible refine (v_rules _).mono ?_); rintro e w2 ⟨g1, vs, rfl, hbt, hkeys⟩; have hrun := hbt.lookN 26 (by decide) (fun v => by simp [RuleV]); have HB2 := Aside0.mk (below_step (below_drew1 HB.out) hbt.1); have BS2 := Aside0.mk (blk_below (blk_drew BS.out) hbt.1); have BI2 := Aside0.mk (blk_below (blk_drew BI.out) hbt.1); have r0 := (blk_cell BI2.out 0).trans rfl; clear hbt hkeys HB BS BI q0))
  have hne := neq_nil
  have q0 := (blk_cell BS2.out 0).trans rfl
  have q1 := (blk_cell BS2.out 1).trans rfl
  go_wp2
  clear hrun hne r0
  by_cases hlt : s.d < bse s.m
  · have hlt1 := decide_eq_true hlt
    have HLT := Aside0.mk hlt
    clear hlt
    go_region_held3 (fun w' => w'.cell? ⟨W.heap.size, 0, none⟩ = some (.int .i64 s.d) ∧ w'.cell? ⟨W.heap.size, 1, none⟩ = some (.slice A s.m.length c)) (go_keep) (first
      | (go_at_call 38; (with_reducible refine (verify_state_base.calls s.d A c s.m (bse s.m) _ (Kd.C_drew (Kd.C_below HC.out HB2.out)) HLC.out (base_f (by have := HM.out; omega))).mono ?_); rintro e w3 ⟨rfl, hb⟩; have HB3 := Aside0.mk (below_step (below_drew1 HB2.out) hb); have r0 := (blk_cell (blk_below (blk_drew BS2.out) hb) 0).trans rfl; have r1 := (blk_cell (blk_below (blk_drew BS2.out) hb) 1).trans rfl; clear hb))
    go_wp2
    go_ret2
    exact ⟨HB3.out, .slice none 0 0, false, rfl, by rw [E2.out HLT.out]; exact nextOut_none⟩
  have hlt1 := decide_eq_false hlt
  have HLT := Aside0.mk hlt
  clear hlt
  go_region_held3 (fun w' => w'.cell? ⟨W.heap.size, 0, none⟩ = some (.int .i64 s.d) ∧ w'.cell? ⟨W.heap.size, 1, none⟩ = some (.slice A s.m.length c)) (go_keep) (first
    | (go_at_call 38; (with_reducible refine (verify_state_base.calls s.d A c s.m (bse s.m) _ (Kd.C_drew (Kd.C_below HC.out HB2.out)) HLC.out (base_f (by have := HM.out; omega))).mono ?_); rintro e w3 ⟨rfl, hb⟩; have HB3 := Aside0.mk (below_step (below_drew1 HB2.out) hb); have BS3 := Aside0.mk (blk_below (blk_drew BS2.out) hb); have BI3 := Aside0.mk (blk_below (blk_drew BI2.out) hb); have r0 := (blk_cell BS3.out 0).trans rfl; have r1 := (blk_cell BS3.out 1).trans rfl; clear hb))
  clear q0 q1
  go_wp2_with (first
    | (go_at_call 39; (with_reducible refine (v_moved _ _ _ _ _ _).mono ?_); rintro e w4 ⟨rfl, hb⟩; have HB4 := Aside0.mk (below_step HB3.out hb); have BS4 := Aside0.mk (blk_below BS3.out hb); have BI4 := Aside0.mk (blk_below BI3.out hb); have u0 : ∀ o : Obj, (w4.alloc o).cell? ⟨W.heap.size + 1, 0, none⟩ = some (.int .i64 26) := fun o => (blk_cell (blk_alloc BI4.out o) 0).trans rfl; have u1 : ∀ o : Obj, (w4.alloc o).cell? ⟨W.heap.size + 1, 1, none⟩ = some (.int .i64 i.f1) := fun o => (blk_cell (blk_alloc BI4.out o) 1).trans rfl; have u2 : ∀ o : Obj, (w4.alloc o).cell? ⟨W.heap.size + 1, 2, none⟩ = some (.int .i64 i.f2) := fun o => (blk_cell (blk_alloc BI4.out o) 2).trans rfl; have v0 : ∀ o : Obj, (w4.alloc o).cell? ⟨W.heap.size, 0, none⟩ = some (.int .i64 s.d) := fun o => (blk_cell (blk_alloc BS4.out o) 0).trans rfl; have v1 : ∀ o : Obj, (w4.alloc o).cell? ⟨W.heap.size, 1, none⟩ = some (.slice A s.m.length c) := fun o => (blk_cell (blk_alloc BS4.out o) 1).trans rfl; clear hb r0 r1))
  have BS5 := Aside0.mk (blk_alloc BS4.out (.cells #[.int .i64 (at_ + 1), .int .i64 s.d, .slice A s.m.length c] 69))
  have BI5 := Aside0.mk (blk_alloc BI4.out (.cells #[.int .i64 (at_ + 1), .int .i64 s.d, .slice A s.m.length c] 69))
  have HB5 := Aside0.mk (below_alloc HB4.out (.cells #[.int .i64 (at_ + 1), .int .i64 s.d, .slice A s.m.length c] 69))
  have x1 := v1 (.cells #[.int .i64 (at_ + 1), .int .i64 s.d, .slice A s.m.length c] 69)
  have x0 := v0 (.cells #[.int .i64 (at_ + 1), .int .i64 s.d, .slice A s.m.length c] 69)
  have y0 := u0 (.cells #[.int .i64 (at_ + 1), .int .i64 s.d, .slice A s.m.length c] 69)
  have y1 := u1 (.cells #[.int .i64 (at_ + 1), .int .i64 s.d, .slice A s.m.length c] 69)
  have y2 := u2 (.cells #[.int .i64 (at_ + 1), .int .i64 s.d, .slice A s.m.length c] 69)
  have z0 := (blk_cell (blk_new w4 (.cells #[.int .i64 (at_ + 1), .int .i64 s.d, .slice A s.m.length c] 69)) 0).trans rfl
  have z1 := (blk_cell (blk_new w4 (.cells #[.int .i64 (at_ + 1), .int .i64 s.d, .slice A s.m.length c] 69)) 1).trans rfl
  have z2 := (blk_cell (blk_new w4 (.cells #[.int .i64 (at_ + 1), .int .i64 s.d, .slice A s.m.length c] 69)) 2).trans rfl
  clear u0 u1 u2 v0 v1
  generalize w4.alloc (.cells #[.int .i64 (at_ + 1), .int .i64 s.d, .slice A s.m.length c] 69) = w5 at HB5 BS5 BI5 x0 x1 y0 y1 y2 z0 z1 z2 ⊢
  obtain ⟨kk, hkk⟩ := Ev.rounds (any_ev s.m (by have := HM.out; omega))
  have HAE := Aside0.mk hkk
  clear hkk
  go_region_held3 (fun w' => w'.cell? ⟨W.heap.size, 0, none⟩ = some (.int .i64 s.d) ∧ w'.cell? ⟨W.heap.size, 1, none⟩ = some (.slice A s.m.length c) ∧ w'.cell? ⟨W.heap.size + 1, 0, none⟩ = some (.int .i64 26)) (go_keep) (first
    | (go_at_call 40; (with_reducible refine (v_with s.d 26 A c s.m _ (Kd.C_drew (Kd.C_below HC.out HB5.out)) HLC.out (by have := HM.out; omega)).mono ?_); rintro e w6 ⟨vw, rfl, hw, hb⟩; obtain ⟨Aw, cw, rfl, hcw, hCw⟩ := Kd.R_reads hw; rw [show (s.m ++ [(⟨26, s.d⟩ : S89)]).length = s.m.length + 1 from by simp] at hw; have HB6 := Aside0.mk (below_step (below_drew1 HB5.out) hb); have HW := Aside0.mk (Kd.R_lower hw (Nat.le_trans HI.out.1.size (below_drew1 HB5.out).size)); have BS6 := Aside0.mk (blk_below (blk_drew BS5.out) hb); have BI6 := Aside0.mk (blk_below (blk_drew BI5.out) hb); have r0 := (blk_cell BS6.out 0).trans rfl; have r1 := (blk_cell BS6.out 1).trans rfl; have r2 := (blk_cell BI6.out 0).trans rfl; clear hb hw hcw hCw)
    | (go_at_call 41; (with_reducible refine (verify_mark_41.calls kk A c s.m (s.m.any (fun x => x.f0 == 26)) _ (Kd.C_below HC.out HB6.out) HLC.out HAE.out).mono ?_); rintro e w7 ⟨rfl, hb⟩; have HW7 := Aside0.mk (Kd.R_below HW.out hb); have HB7 := Aside0.mk (below_step HB6.out hb); have t0 := (blk_cell (blk_below BS6.out hb) 0).trans rfl; have t1 := (blk_cell (blk_below BS6.out hb) 1).trans rfl; have t2 := (blk_cell (blk_below BI6.out hb) 0).trans rfl; clear hb)
    | (go_at_call 41; (with_reducible refine (verify_mark_41.calls kk A c s.m (s.m.any (fun x => x.f0 == 26)) _ (Kd.C_below HC.out (below_alloc HB6.out _)) HLC.out HAE.out).mono ?_); rintro e w7 ⟨rfl, hb⟩; have HR7 := Aside0.mk (Kd.R_below (R69_one rfl (Nat.le_trans HI.out.1.size HB6.out.size) (ofT (at_ + 1, ⟨s.d, s.m ++ [(⟨26, s.d⟩ : S89)]⟩)) HW.out) hb); have HB7 := Aside0.mk (below_step (below_alloc HB6.out _) hb); have t0 := (blk_cell (blk_below (blk_alloc BS6.out _) hb) 0).trans rfl; have t1 := (blk_cell (blk_below (blk_alloc BS6.out _) hb) 1).trans rfl; have t2 := (blk_cell (blk_below (blk_alloc BI6.out _) hb) 0).trans rfl; clear hb))
  all_goals go_wp2
  all_goals go_ret2
  all_goals first
    | refine ⟨HB7.out, _, !(s.m.any (fun x => x.f0 == 26)), rfl, ?_⟩
    | refine ⟨below_alloc HB7.out _, _, !(s.m.any (fun x => x.f0 == 26)), rfl, ?_⟩
  all_goals rw [E3.out HLT.out]
  all_goals unfold goI
  all_goals rw [if_neg (by simp [hop]), if_neg (by simp [hop]), if_neg (by simp [hop]), if_neg (by simp [hop]), if_neg (by simp [hop]), if_neg (by simp [hop]), if_neg (by simp [hop]), if_pos (by simp [hop])]
  all_goals cases ha : s.m.any (fun x => x.f0 == 26)
  all_goals first
    | (rw [if_pos rfl]; exact nextOut_none)
    | (rw [if_neg (by decide)]; first | exact ⟨rfl, HR7.out⟩ | exact ⟨rfl, R69_one (by simp) (Nat.le_trans HI.out.1.size HB7.out.size) (ofT (at_ + 1, ⟨s.d, s.m ++ [(⟨26, s.d⟩ : S89)]⟩)) HW7.out⟩)
end
end Go.Proofs.Ytnhipgmphhndhaa.Q
namespace Go.Proofs.Ytnhipgmphhndhaa.Q
open Go.RowKit Go.Proofs.YtnhipgmphhndhaaW.PrintWords Go.Proofs.YtnhipgmphhndhaaW.PrintLast Go.Proofs.YtnhipgmphhndhaaW.PrintMore
set_option linter.unusedVariables false
set_option linter.unusedSectionVars false
set_option linter.unusedSimpArgs false
set_option maxRecDepth 100000
/-! ### (*walker).next, by what the Op is -/
section
variable {w0 W : World} {g : Nat} {fs : List S32} {xs : List Int} {ts : List ByteArray} {lets n : Int} {f : S32}
/-! ### the small map of Done, Commit, Joined -/
def Own93 (w W : World) (g : Nat) (vs : List (Int × Value)) : Prop := Below w.heap.size w W ∧ w.heap.size ≤ g ∧ W.ownsMap Try.prog 3 rdV g vs.length (mapOf vs)
theorem Own93.below {w W : World} {g : Nat} {vs : List (Int × Value)} (h : Own93 w W g vs) : Below w.heap.size w W := h.1
theorem Own93.made (w : World) (o : Obj) : Own93 w ((w.alloc o).alloc (.map #[] 0)) (w.heap.size + 1) [] := by
  refine ⟨below_alloc (below_alloc (Below.refl _ _) _) _, by omega, ?_⟩
  have h := World.ownsMap_made (w.alloc o) Try.prog 3 rdV
  have e : (w.alloc o).heap.size = w.heap.size + 1 := by simp
  rwa [e] at h
theorem ins93_ {w W : World} {g : Nat} {vs : List (Int × Value)} {ops : Array Oper} {rest : List Oper} {o : Oper} {a : Act} {Q : Exit → Act → World → Prop} (hg : o.guard = none) (m x v : Operand) (hop : o.op = Op.insert 93 m x v)
    (hm : a.eval m = .map (some g)) (k : Int) (val : Value) (hx : a.eval x = .int .i64 k) (hv : a.eval v = val) (hwf : (Lit.int .i64 k).wf = true) (hB : Own93 w W g vs) (hn : vs.length < 1000)
    (h : ∀ W1, Own93 w W1 g ((k, val) :: vs) → wpList Try.prog ops Q rest (a.put o.dst undef) W1) : wpList Try.prog ops Q (o :: rest) a W := by
  refine wpList_plain hg fun K' hK' => ?_
  obtain ⟨w', hrun, r1, r2⟩ := hB.2.2.update key3 Try.underlying93 (Nat.lt_trans hn (by unfold maxLen; omega)) (Maps.keyOf_int_mk Try.underlying3 hwf) (show rdV val = some (.held val, []) from rfl)
  unfold Oper.wp
  simp [execOp, hop, hm, hx, hv, hrun, Result.andThen]
  exact hK' _ _ (h w' ⟨hB.1.grown r2 hB.1.size (fun k hk => by injection hk with hk; have := hB.2.1; omega), hB.2.1, r1⟩)
theorem zero3 (W : World) : (zeroValue 3).run Try.prog W = .ok (.int .i64 0) W := by kernel_rfl
theorem Own93.look {w W : World} {g : Nat} {vs : List (Int × Value)} (h : Own93 w W g vs) (op : Int) (x : Value) (hwf : (Lit.int .i64 op).wf = true) (hx : (mapOf vs).atKey (.int .i64 op) (.held (.int .i64 0)) = .held x) : (Instr.lookup 93 (.map (some g)) (.int .i64 op) false).run Try.prog W = .ok x W := by
  obtain ⟨v, ps, hrun, hv⟩ := h.2.2.lookup (e := 3) (zd := .held (.int .i64 0)) (zp := []) key3 Try.underlying93 (zero3 W) rfl (Maps.keyOf_int_mk Try.underlying3 hwf)
  unfold rdV at hv
  injection hv with hv
  have h1 := congrArg Prod.fst hv
  simp only at h1
  rw [hx] at h1
  injection h1 with h1
  rw [hrun, h1]
set_option maxHeartbeats 4000000 in
theorem next_22 (hI : IsW w0 W g fs xs ts lets n f) {at_ : Int} (hat : 0 ≤ at_ ∧ at_ < (f.f3.length : Int)) (hl : f.f3.length ≤ 400) (hOk : OkIns (rd_T37 f.f3 at_)) {s : St} (hs : OkS s) (hm : s.m.length ≤ 1000) {v : Value} (hR : Kd.R k89 89 W w0.heap.size (fun _ => True) v s.m)
    (hop : (rd_T37 f.f3 at_).f0 = 22) :
    Calls Try.prog 29 #[.pointer (some ⟨g, 0, none⟩), .int .i64 at_, .agg #[.int .i64 s.d, v]] W fun e w' => Below W.heap.size W w' ∧ ∃ u b, e = .returned (.tuple #[u, .bool b]) ∧
      NextOut w0 w' u b (nx1 fs xs.length ts.length lets n f (rd_T37 f.f3 at_) at_ s) := by
  have hmm := @run_makeMap Try.prog
  have hu45 := Try.underlying45
  have hu32 := Try.underlying32
  have hu37 := Try.underlying37
  have hu52 := Try.underlying52
  have hu69 := Try.underlying69
  have hu30 := Try.underlying30
  have HI := Aside0.mk hI
  have HR := Aside0.mk hR
  obtain ⟨hB0, Af, cf, Ax, cx, At, ct, Ac, cc, hg, h1, h2, h3, h4⟩ := hI
  obtain ⟨A, c, rfl, hc, hC⟩ := Kd.R_reads hR
  obtain ⟨ad, e, hx0, hx1, hx2⟩ := at_T37 h4 at_ hat.1 hat.2
  cases e
  have y0 : ∀ o : Obj, (W.alloc o).cell? (ad.add (at_.toNat * 3)) = some (.int .i64 (rd_T37 f.f3 at_).f0) := fun o => ((below_alloc hB0 o).cell (World.block_lt_of_cell? w0 _ hx0)).trans hx0
  have y1 : ∀ o : Obj, (W.alloc o).cell? ⟨(ad.add (at_.toNat * 3)).block, (ad.add (at_.toNat * 3)).off + 1, none⟩ = some (.int .i64 (rd_T37 f.f3 at_).f1) := fun o => ((below_alloc hB0 o).cell (World.block_lt_of_cell? w0 _ hx1)).trans hx1
  have y2 : ∀ o : Obj, (W.alloc o).cell? ⟨(ad.add (at_.toNat * 3)).block, (ad.add (at_.toNat * 3)).off + 2, none⟩ = some (.int .i64 (rd_T37 f.f3 at_).f2) := fun o => ((below_alloc hB0 o).cell (World.block_lt_of_cell? w0 _ hx2)).trans hx2
  have c8 : ∀ o : Obj, (W.alloc o).cell? ⟨g, 8, none⟩ = some (.slice (some ad) f.f3.length cc) := fun o => (blk_cell (blk_alloc hg o) 8).trans rfl
  have p1 : (0 ≤ at_) = True := eq_true hat.1
  have p2 : (at_ < (f.f3.length : Int)) = True := eq_true hat.2
  have HC := Aside0.mk hC
  have HLC := Aside0.mk hc
  have hb0 := bse_ok hs
  have hT := takes_ok hOk
  have hP := puts_ok (rd_T37 f.f3 at_)
  have hwf : (Lit.int .i64 (rd_T37 f.f3 at_).f0).wf = true := WalkArith.wf_i64 (by have := hOk.1; have := hOk.2.1; omega)
  have w1_ : IntKind.i64.wrap (s.d - takesI (rd_T37 f.f3 at_)) = s.d - takesI (rd_T37 f.f3 at_) := by rw [i64_w]; exact w64 _ (by have := hs.1; omega) (by have := hs.2.1; omega)
  have w2 : IntKind.i64.wrap (at_ + 1) = at_ + 1 := by rw [i64_w]; exact w64 _ (by have := hat.1; omega) (by have := hat.2; omega)
  have w3 : IntKind.i64.wrap (putsI (rd_T37 f.f3 at_) - takesI (rd_T37 f.f3 at_)) = putsI (rd_T37 f.f3 at_) - takesI (rd_T37 f.f3 at_) := by rw [i64_w]; exact w64 _ (by omega) (by omega)
  have w4_ : wrap64 (s.d + (putsI (rd_T37 f.f3 at_) - takesI (rd_T37 f.f3 at_))) = s.d - takesI (rd_T37 f.f3 at_) + putsI (rd_T37 f.f3 at_) := (w64 _ (by have := hs.1; omega) (by have := hs.2.1; omega)).trans (by omega)
  have HM := Aside0.mk hm
  clear hB0 hg h1 h2 h3 h4 hx0 hx1 hx2 hC hc
  generalize hi : rd_T37 f.f3 at_ = i at *
  clear hi
  go_enter Try.func29, Try.ntmps29
  go_wp2
  have HB := Aside0.mk (below_alloc (below_alloc (Below.refl W.heap.size W) (.cells #[.int .i64 s.d, .slice A s.m.length c] 52)) (.cells #[.int .i64 22, .int .i64 i.f1, .int .i64 i.f2] 37))
  have BS := Aside0.mk (blk_alloc (blk_new W (.cells #[.int .i64 s.d, .slice A s.m.length c] 52)) (.cells #[.int .i64 22, .int .i64 i.f1, .int .i64 i.f2] 37))
  have BI := Aside0.mk (blk_new2 W (.cells #[.int .i64 s.d, .slice A s.m.length c] 52) (.cells #[.int .i64 22, .int .i64 i.f1, .int .i64 i.f2] 37))
  clear y0 y1 y2 c8
  generalize (W.alloc (.cells #[.int .i64 s.d, .slice A s.m.length c] 52)).alloc (.cells #[.int .i64 22, .int .i64 i.f1, .int .i64 i.f2] 37) = W2 at HB BS BI ⊢
  have q0 := (blk_cell BI.out 0).trans rfl
  have EN := no_rule (fs := fs) (xs := xs) (ts := ts) (lets := lets) (n := n) (f := f) (i := i) hOk.1 (by rw [hop]; decide)
  have E2 := Aside0.mk (show s.d < bse s.m → nx1 fs xs.length ts.length lets n f i at_ s = none from fun h2 => by unfold nx1; rw [EN.1, if_pos rfl, EN.2.1, if_pos (by omega)])
  have E3 := Aside0.mk (show ¬ s.d < bse s.m → nx1 fs xs.length ts.length lets n f i at_ s = goI at_ i s from fun h2 => by unfold nx1; rw [EN.1, if_pos rfl, EN.2.1, if_neg (by omega)])
  have w1 : IntKind.i64.wrap s.d = s.d := by rw [i64_w]; exact w64 _ (by have := hs.1; omega) (by have := hs.2.1; omega)
  have w4 : wrap64 s.d = s.d := w64 _ (by have := hs.1; omega) (by have := hs.2.1; omega)
  clear w3 w1_ w4_ hT hP EN
  go_region_held3 (fun w' => w'.cell? ⟨W.heap.size + 1, 0, none⟩ = some (.int .i64 22)) (go_keep) (first
    | (go_at_call 37; (with_reducible refine (v_rules _).mono ?_); rintro e w2 ⟨g1, vs, rfl, hbt, hkeys⟩; have hrun := hbt.lookN 22 (by decide) (fun v => by simp [RuleV]); have HB2 := Aside0.mk (below_step (below_drew1 HB.out) hbt.1); have BS2 := Aside0.mk (blk_below (blk_drew BS.out) hbt.1); have BI2 := Aside0.mk (blk_below (blk_drew BI.out) hbt.1); have r0 := (blk_cell BI2.out 0).trans rfl; clear hbt hkeys HB BS BI q0))
  have hne := neq_nil
  have q0 := (blk_cell BS2.out 0).trans rfl
  have q1 := (blk_cell BS2.out 1).trans rfl
  go_wp2
  clear hrun hne r0
  by_cases hlt : s.d < bse s.m
  · have hlt1 := decide_eq_true hlt
    have HLT := Aside0.mk hlt
    clear hlt
    go_region_held3 (fun w' => w'.cell? ⟨W.heap.size, 0, none⟩ = some (.int .i64 s.d) ∧ w'.cell? ⟨W.heap.size, 1, none⟩ = some (.slice A s.m.length c)) (go_keep) (first
      | (go_at_call 38; (with_reducible refine (verify_state_base.calls s.d A c s.m (bse s.m) _ (Kd.C_drew (Kd.C_below HC.out HB2.out)) HLC.out (base_f (by have := HM.out; omega))).mono ?_); rintro e w3 ⟨rfl, hb⟩; have HB3 := Aside0.mk (below_step (below_drew1 HB2.out) hb); have r0 := (blk_cell (blk_below (blk_drew BS2.out) hb) 0).trans rfl; have r1 := (blk_cell (blk_below (blk_drew BS2.out) hb) 1).trans rfl; clear hb))
    go_wp2
    go_ret2
    exact ⟨HB3.out, .slice none 0 0, false, rfl, by rw [E2.out HLT.out]; exact nextOut_none⟩
  have hlt1 := decide_eq_false hlt
  have HLT := Aside0.mk hlt
  clear hlt
  go_region_held3 (fun w' => w'.cell? ⟨W.heap.size, 0, none⟩ = some (.int .i64 s.d) ∧ w'.cell? ⟨W.heap.size, 1, none⟩ = some (.slice A s.m.length c)) (go_keep) (first
    | (go_at_call 38; (with_reducible refine (verify_state_base.calls s.d A c s.m (bse s.m) _ (Kd.C_drew (Kd.C_below HC.out HB2.out)) HLC.out (base_f (by have := HM.out; omega))).mono ?_); rintro e w3 ⟨rfl, hb⟩; have HB3 := Aside0.mk (below_step (below_drew1 HB2.out) hb); have BS3 := Aside0.mk (blk_below (blk_drew BS2.out) hb); have BI3 := Aside0.mk (blk_below (blk_drew BI2.out) hb); have r0 := (blk_cell BS3.out 0).trans rfl; have r1 := (blk_cell BS3.out 1).trans rfl; clear hb))
  clear q0 q1
  cases hla : lastIs s.m 21
  all_goals go_wp2_with (first
    | (go_at_call 39; (with_reducible refine (v_moved _ _ _ _ _ _).mono ?_); rintro e w4 ⟨rfl, hb⟩; have HB4 := Aside0.mk (below_step HB3.out hb); have BS4 := Aside0.mk (blk_below BS3.out hb); have BI4 := Aside0.mk (blk_below BI3.out hb); have u0 : ∀ o : Obj, (w4.alloc o).cell? ⟨W.heap.size + 1, 0, none⟩ = some (.int .i64 22) := fun o => (blk_cell (blk_alloc BI4.out o) 0).trans rfl; have u1 : ∀ o : Obj, (w4.alloc o).cell? ⟨W.heap.size + 1, 1, none⟩ = some (.int .i64 i.f1) := fun o => (blk_cell (blk_alloc BI4.out o) 1).trans rfl; have u2 : ∀ o : Obj, (w4.alloc o).cell? ⟨W.heap.size + 1, 2, none⟩ = some (.int .i64 i.f2) := fun o => (blk_cell (blk_alloc BI4.out o) 2).trans rfl; have v0 : ∀ o : Obj, (w4.alloc o).cell? ⟨W.heap.size, 0, none⟩ = some (.int .i64 s.d) := fun o => (blk_cell (blk_alloc BS4.out o) 0).trans rfl; have v1 : ∀ o : Obj, (w4.alloc o).cell? ⟨W.heap.size, 1, none⟩ = some (.slice A s.m.length c) := fun o => (blk_cell (blk_alloc BS4.out o) 1).trans rfl; have HOW := Aside0.mk (Own93.made w4 (.cells #[.int .i64 (at_ + 1), .int .i64 s.d, .slice A s.m.length c] 69)); clear hb r0 r1)
    | (refine ins93_ rfl (.tmp 141) (.const (.int .i64 22)) (.const (.int .i64 21)) rfl rfl 22 (.int .i64 21) rfl rfl (by decide) HOW.out (by simp) ?_; intro w1 hb; clear HOW; have HOW := Aside0.mk hb; (try clear r0 t0 t1 hrun); have r0 := (blk_cell (blk_below BI4.out hb.1) 0).trans rfl; have t0 := (blk_cell (blk_below BS4.out hb.1) 0).trans rfl; have t1 := (blk_cell (blk_below BS4.out hb.1) 1).trans rfl; clear hb)
    | (refine ins93_ rfl (.tmp 141) (.const (.int .i64 27)) (.const (.int .i64 26)) rfl rfl 27 (.int .i64 26) rfl rfl (by decide) HOW.out (by simp) ?_; intro w1 hb; clear HOW; have HOW := Aside0.mk hb; (try clear r0 t0 t1 hrun); have r0 := (blk_cell (blk_below BI4.out hb.1) 0).trans rfl; have t0 := (blk_cell (blk_below BS4.out hb.1) 0).trans rfl; have t1 := (blk_cell (blk_below BS4.out hb.1) 1).trans rfl; clear hb)
    | (refine ins93_ rfl (.tmp 141) (.const (.int .i64 29)) (.const (.int .i64 28)) rfl rfl 29 (.int .i64 28) rfl rfl (by decide) HOW.out (by simp) ?_; intro w1 hb; clear HOW; have HOW := Aside0.mk hb; (try clear r0 t0 t1 hrun); have r0 := (blk_cell (blk_below BI4.out hb.1) 0).trans rfl; have t0 := (blk_cell (blk_below BS4.out hb.1) 0).trans rfl; have t1 := (blk_cell (blk_below BS4.out hb.1) 1).trans rfl; have hrun := hb.look 22 (.int .i64 21) (by decide) rfl; clear hb)
    | (go_at_call 43; (with_reducible refine (v_without s.d 21 A c s.m _ (Kd.C_below HC.out (below_step HB4.out HOW.out.below)) HLC.out (by have := HM.out; omega)).mono ?_); rintro e w8 ⟨rfl, hb⟩; have HB8 := Aside0.mk (below_step (below_step HB4.out HOW.out.below) hb); clear hb hrun r0 t0 t1))
  · go_ret2
    refine ⟨below_alloc (below_alloc HB8.out _) _, _, false, rfl, ?_⟩
    rw [E3.out HLT.out]
    unfold goI
    rw [if_neg (by simp [hop]), if_neg (by simp [hop]), if_neg (by simp [hop]), if_neg (by simp [hop]), if_neg (by simp [hop]), if_neg (by simp [hop]), if_neg (by simp [hop]), if_neg (by simp [hop]), if_pos (by simp [hop])]
    rw [hla, if_neg (by decide)]
    exact nextOut_none
  · go_ret2
    refine ⟨below_alloc (below_alloc HB8.out _) _, _, true, rfl, ?_⟩
    rw [E3.out HLT.out]
    unfold goI
    rw [if_neg (by simp [hop]), if_neg (by simp [hop]), if_neg (by simp [hop]), if_neg (by simp [hop]), if_neg (by simp [hop]), if_neg (by simp [hop]), if_neg (by simp [hop]), if_neg (by simp [hop]), if_pos (by simp [hop])]
    rw [hla, if_pos rfl]
    refine ⟨rfl, ?_⟩
    have hT := Kd.R_take (m := s.m.length - 1) HR.out (by omega)
    exact R69_one (by simp) (Nat.le_trans HI.out.1.size (below_alloc HB8.out _).size) (ofT (at_ + 1, ⟨s.d, s.m.take (s.m.length - 1)⟩)) (R89_far hT (below_alloc HB8.out _))
set_option maxHeartbeats 4000000 in
theorem next_27 (hI : IsW w0 W g fs xs ts lets n f) {at_ : Int} (hat : 0 ≤ at_ ∧ at_ < (f.f3.length : Int)) (hl : f.f3.length ≤ 400) (hOk : OkIns (rd_T37 f.f3 at_)) {s : St} (hs : OkS s) (hm : s.m.length ≤ 1000) {v : Value} (hR : Kd.R k89 89 W w0.heap.size (fun _ => True) v s.m)
    (hop : (rd_T37 f.f3 at_).f0 = 27) :
    Calls Try.prog 29 #[.pointer (some ⟨g, 0, none⟩), .int .i64 at_, .agg #[.int .i64 s.d, v]] W fun e w' => Below W.heap.size W w' ∧ ∃ u b, e = .returned (.tuple #[u, .bool b]) ∧
      NextOut w0 w' u b (nx1 fs xs.length ts.length lets n f (rd_T37 f.f3 at_) at_ s) := by
  have hmm := @run_makeMap Try.prog
  have hu45 := Try.underlying45
  have hu32 := Try.underlying32
  have hu37 := Try.underlying37
  have hu52 := Try.underlying52
  have hu69 := Try.underlying69
  have hu30 := Try.underlying30
  have HI := Aside0.mk hI
  have HR := Aside0.mk hR
  obtain ⟨hB0, Af, cf, Ax, cx, At, ct, Ac, cc, hg, h1, h2, h3, h4⟩ := hI
  obtain ⟨A, c, rfl, hc, hC⟩ := Kd.R_reads hR
  obtain ⟨ad, e, hx0, hx1, hx2⟩ := at_T37 h4 at_ hat.1 hat.2
  cases e
  have y0 : ∀ o : Obj, (W.alloc o).cell? (ad.add (at_.toNat * 3)) = some (.int .i64 (rd_T37 f.f3 at_).f0) := fun o => ((below_alloc hB0 o).cell (World.block_lt_of_cell? w0 _ hx0)).trans hx0
  have y1 : ∀ o : Obj, (W.alloc o).cell? ⟨(ad.add (at_.toNat * 3)).block, (ad.add (at_.toNat * 3)).off + 1, none⟩ = some (.int .i64 (rd_T37 f.f3 at_).f1) := fun o => ((below_alloc hB0 o).cell (World.block_lt_of_cell? w0 _ hx1)).trans hx1
  have y2 : ∀ o : Obj, (W.alloc o).cell? ⟨(ad.add (at_.toNat * 3)).block, (ad.add (at_.toNat * 3)).off + 2, none⟩ = some (.int .i64 (rd_T37 f.f3 at_).f2) := fun o => ((below_alloc hB0 o).cell (World.block_lt_of_cell? w0 _ hx2)).trans hx2
  have c8 : ∀ o : Obj, (W.alloc o).cell? ⟨g, 8, none⟩ = some (.slice (some ad) f.f3.length cc) := fun o => (blk_cell (blk_alloc hg o) 8).trans rfl
  have p1 : (0 ≤ at_) = True := eq_true hat.1
  have p2 : (at_ < (f.f3.length : Int)) = True := eq_true hat.2
  have HC := Aside0.mk hC
  have HLC := Aside0.mk hc
  have hb0 := bse_ok hs
  have hT := takes_ok hOk
  have hP := puts_ok (rd_T37 f.f3 at_)
  have hwf : (Lit.int .i64 (rd_T37 f.f3 at_).f0).wf = true := WalkArith.wf_i64 (by have := hOk.1; have := hOk.2.1; omega)
  have w1_ : IntKind.i64.wrap (s.d - takesI (rd_T37 f.f3 at_)) = s.d - takesI (rd_T37 f.f3 at_) := by rw [i64_w]; exact w64 _ (by have := hs.1; omega) (by have := hs.2.1; omega)
  have w2 : IntKind.i64.wrap (at_ + 1) = at_ + 1 := by rw [i64_w]; exact w64 _ (by have := hat.1; omega) (by have := hat.2; omega)
  have w3 : IntKind.i64.wrap (putsI (rd_T37 f.f3 at_) - takesI (rd_T37 f.f3 at_)) = putsI (rd_T37 f.f3 at_) - takesI (rd_T37 f.f3 at_) := by rw [i64_w]; exact w64 _ (by omega) (by omega)
  have w4_ : wrap64 (s.d + (putsI (rd_T37 f.f3 at_) - takesI (rd_T37 f.f3 at_))) = s.d - takesI (rd_T37 f.f3 at_) + putsI (rd_T37 f.f3 at_) := (w64 _ (by have := hs.1; omega) (by have := hs.2.1; omega)).trans (by omega)
  have HM := Aside0.mk hm
  clear hB0 hg h1 h2 h3 h4 hx0 hx1 hx2 hC hc
  generalize hi : rd_T37 f.f3 at_ = i at *
  clear hi
  go_enter Try.func29, Try.ntmps29
  go_wp2
  have HB := Aside0.mk (below_alloc (below_alloc (Below.refl W.heap.size W) (.cells #[.int .i64 s.d, .slice A s.m.length c] 52)) (.cells #[.int .i64 27, .int .i64 i.f1, .int .i64 i.f2] 37))
  have BS := Aside0.mk (blk_alloc (blk_new W (.cells #[.int .i64 s.d, .slice A s.m.length c] 52)) (.cells #[.int .i64 27, .int .i64 i.f1, .int .i64 i.f2] 37))
  have BI := Aside0.mk (blk_new2 W (.cells #[.int .i64 s.d, .slice A s.m.length c] 52) (.cells #[.int .i64 27, .int .i64 i.f1, .int .i64 i.f2] 37))
  clear y0 y1 y2 c8
  generalize (W.alloc (.cells #[.int .i64 s.d, .slice A s.m.length c] 52)).alloc (.cells #[.int .i64 27, .int .i64 i.f1, .int .i64 i.f2] 37) = W2 at HB BS BI ⊢
  have q0 := (blk_cell BI.out 0).trans rfl
  have EN := no_rule (fs := fs) (xs := xs) (ts := ts) (lets := lets) (n := n) (f := f) (i := i) hOk.1 (by rw [hop]; decide)
  have E2 := Aside0.mk (show s.d < bse s.m → nx1 fs xs.length ts.length lets n f i at_ s = none from fun h2 => by unfold nx1; rw [EN.1, if_pos rfl, EN.2.1, if_pos (by omega)])
  have E3 := Aside0.mk (show ¬ s.d < bse s.m → nx1 fs xs.length ts.length lets n f i at_ s = goI at_ i s from fun h2 => by unfold nx1; rw [EN.1, if_pos rfl, EN.2.1, if_neg (by omega)])
  have w1 : IntKind.i64.wrap s.d = s.d := by rw [i64_w]; exact w64 _ (by have := hs.1; omega) (by have := hs.2.1; omega)
  have w4 : wrap64 s.d = s.d := w64 _ (by have := hs.1; omega) (by have := hs.2.1; omega)
  clear w3 w1_ w4_ hT hP EN
  go_region_held3 (fun w' => w'.cell? ⟨W.heap.size + 1, 0, none⟩ = some (.int .i64 27)) (go_keep) (first
    | (go_at_call 37; (with_reducible refine (v_rules _).mono ?_); rintro e w2 ⟨g1, vs, rfl, hbt, hkeys⟩; have hrun := hbt.lookN 27 (by decide) (fun v => by simp [RuleV]); have HB2 := Aside0.mk (below_step (below_drew1 HB.out) hbt.1); have BS2 := Aside0.mk (blk_below (blk_drew BS.out) hbt.1); have BI2 := Aside0.mk (blk_below (blk_drew BI.out) hbt.1); have r0 := (blk_cell BI2.out 0).trans rfl; clear hbt hkeys HB BS BI q0))
  have hne := neq_nil
  have q0 := (blk_cell BS2.out 0).trans rfl
  have q1 := (blk_cell BS2.out 1).trans rfl
  go_wp2
  clear hrun hne r0
  by_cases hlt : s.d < bse s.m
  · have hlt1 := decide_eq_true hlt
    have HLT := Aside0.mk hlt
    clear hlt
    go_region_held3 (fun w' => w'.cell? ⟨W.heap.size, 0, none⟩ = some (.int .i64 s.d) ∧ w'.cell? ⟨W.heap.size, 1, none⟩ = some (.slice A s.m.length c)) (go_keep) (first
      | (go_at_call 38; (with_reducible refine (verify_state_base.calls s.d A c s.m (bse s.m) _ (Kd.C_drew (Kd.C_below HC.out HB2.out)) HLC.out (base_f (by have := HM.out; omega))).mono ?_); rintro e w3 ⟨rfl, hb⟩; have HB3 := Aside0.mk (below_step (below_drew1 HB2.out) hb); have r0 := (blk_cell (blk_below (blk_drew BS2.out) hb) 0).trans rfl; have r1 := (blk_cell (blk_below (blk_drew BS2.out) hb) 1).trans rfl; clear hb))
    go_wp2
    go_ret2
    exact ⟨HB3.out, .slice none 0 0, false, rfl, by rw [E2.out HLT.out]; exact nextOut_none⟩
  have hlt1 := decide_eq_false hlt
  have HLT := Aside0.mk hlt
  clear hlt
  go_region_held3 (fun w' => w'.cell? ⟨W.heap.size, 0, none⟩ = some (.int .i64 s.d) ∧ w'.cell? ⟨W.heap.size, 1, none⟩ = some (.slice A s.m.length c)) (go_keep) (first
    | (go_at_call 38; (with_reducible refine (verify_state_base.calls s.d A c s.m (bse s.m) _ (Kd.C_drew (Kd.C_below HC.out HB2.out)) HLC.out (base_f (by have := HM.out; omega))).mono ?_); rintro e w3 ⟨rfl, hb⟩; have HB3 := Aside0.mk (below_step (below_drew1 HB2.out) hb); have BS3 := Aside0.mk (blk_below (blk_drew BS2.out) hb); have BI3 := Aside0.mk (blk_below (blk_drew BI2.out) hb); have r0 := (blk_cell BS3.out 0).trans rfl; have r1 := (blk_cell BS3.out 1).trans rfl; clear hb))
  clear q0 q1
  cases hla : lastIs s.m 26
  all_goals go_wp2_with (first
    | (go_at_call 39; (with_reducible refine (v_moved _ _ _ _ _ _).mono ?_); rintro e w4 ⟨rfl, hb⟩; have HB4 := Aside0.mk (below_step HB3.out hb); have BS4 := Aside0.mk (blk_below BS3.out hb); have BI4 := Aside0.mk (blk_below BI3.out hb); have u0 : ∀ o : Obj, (w4.alloc o).cell? ⟨W.heap.size + 1, 0, none⟩ = some (.int .i64 27) := fun o => (blk_cell (blk_alloc BI4.out o) 0).trans rfl; have u1 : ∀ o : Obj, (w4.alloc o).cell? ⟨W.heap.size + 1, 1, none⟩ = some (.int .i64 i.f1) := fun o => (blk_cell (blk_alloc BI4.out o) 1).trans rfl; have u2 : ∀ o : Obj, (w4.alloc o).cell? ⟨W.heap.size + 1, 2, none⟩ = some (.int .i64 i.f2) := fun o => (blk_cell (blk_alloc BI4.out o) 2).trans rfl; have v0 : ∀ o : Obj, (w4.alloc o).cell? ⟨W.heap.size, 0, none⟩ = some (.int .i64 s.d) := fun o => (blk_cell (blk_alloc BS4.out o) 0).trans rfl; have v1 : ∀ o : Obj, (w4.alloc o).cell? ⟨W.heap.size, 1, none⟩ = some (.slice A s.m.length c) := fun o => (blk_cell (blk_alloc BS4.out o) 1).trans rfl; have HOW := Aside0.mk (Own93.made w4 (.cells #[.int .i64 (at_ + 1), .int .i64 s.d, .slice A s.m.length c] 69)); clear hb r0 r1)
    | (refine ins93_ rfl (.tmp 141) (.const (.int .i64 22)) (.const (.int .i64 21)) rfl rfl 22 (.int .i64 21) rfl rfl (by decide) HOW.out (by simp) ?_; intro w1 hb; clear HOW; have HOW := Aside0.mk hb; (try clear r0 t0 t1 hrun); have r0 := (blk_cell (blk_below BI4.out hb.1) 0).trans rfl; have t0 := (blk_cell (blk_below BS4.out hb.1) 0).trans rfl; have t1 := (blk_cell (blk_below BS4.out hb.1) 1).trans rfl; clear hb)
    | (refine ins93_ rfl (.tmp 141) (.const (.int .i64 27)) (.const (.int .i64 26)) rfl rfl 27 (.int .i64 26) rfl rfl (by decide) HOW.out (by simp) ?_; intro w1 hb; clear HOW; have HOW := Aside0.mk hb; (try clear r0 t0 t1 hrun); have r0 := (blk_cell (blk_below BI4.out hb.1) 0).trans rfl; have t0 := (blk_cell (blk_below BS4.out hb.1) 0).trans rfl; have t1 := (blk_cell (blk_below BS4.out hb.1) 1).trans rfl; clear hb)
    | (refine ins93_ rfl (.tmp 141) (.const (.int .i64 29)) (.const (.int .i64 28)) rfl rfl 29 (.int .i64 28) rfl rfl (by decide) HOW.out (by simp) ?_; intro w1 hb; clear HOW; have HOW := Aside0.mk hb; (try clear r0 t0 t1 hrun); have r0 := (blk_cell (blk_below BI4.out hb.1) 0).trans rfl; have t0 := (blk_cell (blk_below BS4.out hb.1) 0).trans rfl; have t1 := (blk_cell (blk_below BS4.out hb.1) 1).trans rfl; have hrun := hb.look 27 (.int .i64 26) (by decide) rfl; clear hb)
    | (go_at_call 43; (with_reducible refine (v_without s.d 26 A c s.m _ (Kd.C_below HC.out (below_step HB4.out HOW.out.below)) HLC.out (by have := HM.out; omega)).mono ?_); rintro e w8 ⟨rfl, hb⟩; have HB8 := Aside0.mk (below_step (below_step HB4.out HOW.out.below) hb); clear hb hrun r0 t0 t1))
  · go_ret2
    refine ⟨below_alloc (below_alloc HB8.out _) _, _, false, rfl, ?_⟩
    rw [E3.out HLT.out]
    unfold goI
    rw [if_neg (by simp [hop]), if_neg (by simp [hop]), if_neg (by simp [hop]), if_neg (by simp [hop]), if_neg (by simp [hop]), if_neg (by simp [hop]), if_neg (by simp [hop]), if_neg (by simp [hop]), if_neg (by simp [hop]), if_pos (by simp [hop])]
    rw [hla, if_neg (by decide)]
    exact nextOut_none
  · go_ret2
    refine ⟨below_alloc (below_alloc HB8.out _) _, _, true, rfl, ?_⟩
    rw [E3.out HLT.out]
    unfold goI
    rw [if_neg (by simp [hop]), if_neg (by simp [hop]), if_neg (by simp [hop]), if_neg (by simp [hop]), if_neg (by simp [hop]), if_neg (by simp [hop]), if_neg (by simp [hop]), if_neg (by simp [hop]), if_neg (by simp [hop]), if_pos (by simp [hop])]
    rw [hla, if_pos rfl]
    refine ⟨rfl, ?_⟩
    have hT := Kd.R_take (m := s.m.length - 1) HR.out (by omega)
    exact R69_one (by simp) (Nat.le_trans HI.out.1.size (below_alloc HB8.out _).size) (ofT (at_ + 1, ⟨s.d, s.m.take (s.m.length - 1)⟩)) (R89_far hT (below_alloc HB8.out _))
set_option maxHeartbeats 4000000 in
theorem next_29 (hI : IsW w0 W g fs xs ts lets n f) {at_ : Int} (hat : 0 ≤ at_ ∧ at_ < (f.f3.length : Int)) (hl : f.f3.length ≤ 400) (hOk : OkIns (rd_T37 f.f3 at_)) {s : St} (hs : OkS s) (hm : s.m.length ≤ 1000) {v : Value} (hR : Kd.R k89 89 W w0.heap.size (fun _ => True) v s.m)
    (hop : (rd_T37 f.f3 at_).f0 = 29) :
    Calls Try.prog 29 #[.pointer (some ⟨g, 0, none⟩), .int .i64 at_, .agg #[.int .i64 s.d, v]] W fun e w' => Below W.heap.size W w' ∧ ∃ u b, e = .returned (.tuple #[u, .bool b]) ∧
      NextOut w0 w' u b (nx1 fs xs.length ts.length lets n f (rd_T37 f.f3 at_) at_ s) := by
  have hmm := @run_makeMap Try.prog
  have hu45 := Try.underlying45
  have hu32 := Try.underlying32
  have hu37 := Try.underlying37
  have hu52 := Try.underlying52
  have hu69 := Try.underlying69
  have hu30 := Try.underlying30
  have HI := Aside0.mk hI
  have HR := Aside0.mk hR
  obtain ⟨hB0, Af, cf, Ax, cx, At, ct, Ac, cc, hg, h1, h2, h3, h4⟩ := hI
  obtain ⟨A, c, rfl, hc, hC⟩ := Kd.R_reads hR
  obtain ⟨ad, e, hx0, hx1, hx2⟩ := at_T37 h4 at_ hat.1 hat.2
  cases e
  have y0 : ∀ o : Obj, (W.alloc o).cell? (ad.add (at_.toNat * 3)) = some (.int .i64 (rd_T37 f.f3 at_).f0) := fun o => ((below_alloc hB0 o).cell (World.block_lt_of_cell? w0 _ hx0)).trans hx0
  have y1 : ∀ o : Obj, (W.alloc o).cell? ⟨(ad.add (at_.toNat * 3)).block, (ad.add (at_.toNat * 3)).off + 1, none⟩ = some (.int .i64 (rd_T37 f.f3 at_).f1) := fun o => ((below_alloc hB0 o).cell (World.block_lt_of_cell? w0 _ hx1)).trans hx1
  have y2 : ∀ o : Obj, (W.alloc o).cell? ⟨(ad.add (at_.toNat * 3)).block, (ad.add (at_.toNat * 3)).off + 2, none⟩ = some (.int .i64 (rd_T37 f.f3 at_).f2) := fun o => ((below_alloc hB0 o).cell (World.block_lt_of_cell? w0 _ hx2)).trans hx2
  have c8 : ∀ o : Obj, (W.alloc o).cell? ⟨g, 8, none⟩ = some (.slice (some ad) f.f3.length cc) := fun o => (blk_cell (blk_alloc hg o) 8).trans rfl
  have p1 : (0 ≤ at_) = True := eq_true hat.1
  have p2 : (at_ < (f.f3.length : Int)) = True := eq_true hat.2
  have HC := Aside0.mk hC
  have HLC := Aside0.mk hc
  have hb0 := bse_ok hs
  have hT := takes_ok hOk
  have hP := puts_ok (rd_T37 f.f3 at_)
  have hwf : (Lit.int .i64 (rd_T37 f.f3 at_).f0).wf = true := WalkArith.wf_i64 (by have := hOk.1; have := hOk.2.1; omega)
  have w1_ : IntKind.i64.wrap (s.d - takesI (rd_T37 f.f3 at_)) = s.d - takesI (rd_T37 f.f3 at_) := by rw [i64_w]; exact w64 _ (by have := hs.1; omega) (by have := hs.2.1; omega)
  have w2 : IntKind.i64.wrap (at_ + 1) = at_ + 1 := by rw [i64_w]; exact w64 _ (by have := hat.1; omega) (by have := hat.2; omega)
  have w3 : IntKind.i64.wrap (putsI (rd_T37 f.f3 at_) - takesI (rd_T37 f.f3 at_)) = putsI (rd_T37 f.f3 at_) - takesI (rd_T37 f.f3 at_) := by rw [i64_w]; exact w64 _ (by omega) (by omega)
  have w4_ : wrap64 (s.d + (putsI (rd_T37 f.f3 at_) - takesI (rd_T37 f.f3 at_))) = s.d - takesI (rd_T37 f.f3 at_) + putsI (rd_T37 f.f3 at_) := (w64 _ (by have := hs.1; omega) (by have := hs.2.1; omega)).trans (by omega)
  have HM := Aside0.mk hm
  clear hB0 hg h1 h2 h3 h4 hx0 hx1 hx2 hC hc
  generalize hi : rd_T37 f.f3 at_ = i at *
  clear hi
  go_enter Try.func29, Try.ntmps29
  go_wp2
  have HB := Aside0.mk (below_alloc (below_alloc (Below.refl W.heap.size W) (.cells #[.int .i64 s.d, .slice A s.m.length c] 52)) (.cells #[.int .i64 29, .int .i64 i.f1, .int .i64 i.f2] 37))
  have BS := Aside0.mk (blk_alloc (blk_new W (.cells #[.int .i64 s.d, .slice A s.m.length c] 52)) (.cells #[.int .i64 29, .int .i64 i.f1, .int .i64 i.f2] 37))
  have BI := Aside0.mk (blk_new2 W (.cells #[.int .i64 s.d, .slice A s.m.length c] 52) (.cells #[.int .i64 29, .int .i64 i.f1, .int .i64 i.f2] 37))
  clear y0 y1 y2 c8
  generalize (W.alloc (.cells #[.int .i64 s.d, .slice A s.m.length c] 52)).alloc (.cells #[.int .i64 29, .int .i64 i.f1, .int .i64 i.f2] 37) = W2 at HB BS BI ⊢
  have q0 := (blk_cell BI.out 0).trans rfl
  have EN := no_rule (fs := fs) (xs := xs) (ts := ts) (lets := lets) (n := n) (f := f) (i := i) hOk.1 (by rw [hop]; decide)
  have E2 := Aside0.mk (show s.d < bse s.m → nx1 fs xs.length ts.length lets n f i at_ s = none from fun h2 => by unfold nx1; rw [EN.1, if_pos rfl, EN.2.1, if_pos (by omega)])
  have E3 := Aside0.mk (show ¬ s.d < bse s.m → nx1 fs xs.length ts.length lets n f i at_ s = goI at_ i s from fun h2 => by unfold nx1; rw [EN.1, if_pos rfl, EN.2.1, if_neg (by omega)])
  have w1 : IntKind.i64.wrap s.d = s.d := by rw [i64_w]; exact w64 _ (by have := hs.1; omega) (by have := hs.2.1; omega)
  have w4 : wrap64 s.d = s.d := w64 _ (by have := hs.1; omega) (by have := hs.2.1; omega)
  clear w3 w1_ w4_ hT hP EN
  go_region_held3 (fun w' => w'.cell? ⟨W.heap.size + 1, 0, none⟩ = some (.int .i64 29)) (go_keep) (first
    | (go_at_call 37; (with_reducible refine (v_rules _).mono ?_); rintro e w2 ⟨g1, vs, rfl, hbt, hkeys⟩; have hrun := hbt.lookN 29 (by decide) (fun v => by simp [RuleV]); have HB2 := Aside0.mk (below_step (below_drew1 HB.out) hbt.1); have BS2 := Aside0.mk (blk_below (blk_drew BS.out) hbt.1); have BI2 := Aside0.mk (blk_below (blk_drew BI.out) hbt.1); have r0 := (blk_cell BI2.out 0).trans rfl; clear hbt hkeys HB BS BI q0))
  have hne := neq_nil
  have q0 := (blk_cell BS2.out 0).trans rfl
  have q1 := (blk_cell BS2.out 1).trans rfl
  go_wp2
  clear hrun hne r0
  by_cases hlt : s.d < bse s.m
  · have hlt1 := decide_eq_true hlt
    have HLT := Aside0.mk hlt
    clear hlt
    go_region_held3 (fun w' => w'.cell? ⟨W.heap.size, 0, none⟩ = some (.int .i64 s.d) ∧ w'.cell? ⟨W.heap.size, 1, none⟩ = some (.slice A s.m.length c)) (go_keep) (first
      | (go_at_call 38; (with_reducible refine (verify_state_base.calls s.d A c s.m (bse s.m) _ (Kd.C_drew (Kd.C_below HC.out HB2.out)) HLC.out (base_f (by have := HM.out; omega))).mono ?_); rintro e w3 ⟨rfl, hb⟩; have HB3 := Aside0.mk (below_step (below_drew1 HB2.out) hb); have r0 := (blk_cell (blk_below (blk_drew BS2.out) hb) 0).trans rfl; have r1 := (blk_cell (blk_below (blk_drew BS2.out) hb) 1).trans rfl; clear hb))
    go_wp2
    go_ret2
    exact ⟨HB3.out, .slice none 0 0, false, rfl, by rw [E2.out HLT.out]; exact nextOut_none⟩
  have hlt1 := decide_eq_false hlt
  have HLT := Aside0.mk hlt
  clear hlt
  go_region_held3 (fun w' => w'.cell? ⟨W.heap.size, 0, none⟩ = some (.int .i64 s.d) ∧ w'.cell? ⟨W.heap.size, 1, none⟩ = some (.slice A s.m.length c)) (go_keep) (first
    | (go_at_call 38; (with_reducible refine (verify_state_base.calls s.d A c s.m (bse s.m) _ (Kd.C_drew (Kd.C_below HC.out HB2.out)) HLC.out (base_f (by have := HM.out; omega))).mono ?_); rintro e w3 ⟨rfl, hb⟩; have HB3 := Aside0.mk (below_step (below_drew1 HB2.out) hb); have BS3 := Aside0.mk (blk_below (blk_drew BS2.out) hb); have BI3 := Aside0.mk (blk_below (blk_drew BI2.out) hb); have r0 := (blk_cell BS3.out 0).trans rfl; have r1 := (blk_cell BS3.out 1).trans rfl; clear hb))
  clear q0 q1
  cases hla : lastIs s.m 28
  all_goals go_wp2_with (first
    | (go_at_call 39; (with_reducible refine (v_moved _ _ _ _ _ _).mono ?_); rintro e w4 ⟨rfl, hb⟩; have HB4 := Aside0.mk (below_step HB3.out hb); have BS4 := Aside0.mk (blk_below BS3.out hb); have BI4 := Aside0.mk (blk_below BI3.out hb); have u0 : ∀ o : Obj, (w4.alloc o).cell? ⟨W.heap.size + 1, 0, none⟩ = some (.int .i64 29) := fun o => (blk_cell (blk_alloc BI4.out o) 0).trans rfl; have u1 : ∀ o : Obj, (w4.alloc o).cell? ⟨W.heap.size + 1, 1, none⟩ = some (.int .i64 i.f1) := fun o => (blk_cell (blk_alloc BI4.out o) 1).trans rfl; have u2 : ∀ o : Obj, (w4.alloc o).cell? ⟨W.heap.size + 1, 2, none⟩ = some (.int .i64 i.f2) := fun o => (blk_cell (blk_alloc BI4.out o) 2).trans rfl; have v0 : ∀ o : Obj, (w4.alloc o).cell? ⟨W.heap.size, 0, none⟩ = some (.int .i64 s.d) := fun o => (blk_cell (blk_alloc BS4.out o) 0).trans rfl; have v1 : ∀ o : Obj, (w4.alloc o).cell? ⟨W.heap.size, 1, none⟩ = some (.slice A s.m.length c) := fun o => (blk_cell (blk_alloc BS4.out o) 1).trans rfl; have HOW := Aside0.mk (Own93.made w4 (.cells #[.int .i64 (at_ + 1), .int .i64 s.d, .slice A s.m.length c] 69)); clear hb r0 r1)
    | (refine ins93_ rfl (.tmp 141) (.const (.int .i64 22)) (.const (.int .i64 21)) rfl rfl 22 (.int .i64 21) rfl rfl (by decide) HOW.out (by simp) ?_; intro w1 hb; clear HOW; have HOW := Aside0.mk hb; (try clear r0 t0 t1 hrun); have r0 := (blk_cell (blk_below BI4.out hb.1) 0).trans rfl; have t0 := (blk_cell (blk_below BS4.out hb.1) 0).trans rfl; have t1 := (blk_cell (blk_below BS4.out hb.1) 1).trans rfl; clear hb)
    | (refine ins93_ rfl (.tmp 141) (.const (.int .i64 27)) (.const (.int .i64 26)) rfl rfl 27 (.int .i64 26) rfl rfl (by decide) HOW.out (by simp) ?_; intro w1 hb; clear HOW; have HOW := Aside0.mk hb; (try clear r0 t0 t1 hrun); have r0 := (blk_cell (blk_below BI4.out hb.1) 0).trans rfl; have t0 := (blk_cell (blk_below BS4.out hb.1) 0).trans rfl; have t1 := (blk_cell (blk_below BS4.out hb.1) 1).trans rfl; clear hb)
    | (refine ins93_ rfl (.tmp 141) (.const (.int .i64 29)) (.const (.int .i64 28)) rfl rfl 29 (.int .i64 28) rfl rfl (by decide) HOW.out (by simp) ?_; intro w1 hb; clear HOW; have HOW := Aside0.mk hb; (try clear r0 t0 t1 hrun); have r0 := (blk_cell (blk_below BI4.out hb.1) 0).trans rfl; have t0 := (blk_cell (blk_below BS4.out hb.1) 0).trans rfl; have t1 := (blk_cell (blk_below BS4.out hb.1) 1).trans rfl; have hrun := hb.look 29 (.int .i64 28) (by decide) rfl; clear hb)
    | (go_at_call 43; (with_reducible refine (v_without s.d 28 A c s.m _ (Kd.C_below HC.out (below_step HB4.out HOW.out.below)) HLC.out (by have := HM.out; omega)).mono ?_); rintro e w8 ⟨rfl, hb⟩; have HB8 := Aside0.mk (below_step (below_step HB4.out HOW.out.below) hb); clear hb hrun r0 t0 t1))
  · go_ret2
    refine ⟨below_alloc (below_alloc HB8.out _) _, _, false, rfl, ?_⟩
    rw [E3.out HLT.out]
    unfold goI
    rw [if_neg (by simp [hop]), if_neg (by simp [hop]), if_neg (by simp [hop]), if_neg (by simp [hop]), if_neg (by simp [hop]), if_neg (by simp [hop]), if_neg (by simp [hop]), if_neg (by simp [hop]), if_neg (by simp [hop]), if_neg (by simp [hop]), if_pos (by simp [hop])]
    rw [hla, if_neg (by decide)]
    exact nextOut_none
  · go_ret2
    refine ⟨below_alloc (below_alloc HB8.out _) _, _, true, rfl, ?_⟩
    rw [E3.out HLT.out]
    unfold goI
    rw [if_neg (by simp [hop]), if_neg (by simp [hop]), if_neg (by simp [hop]), if_neg (by simp [hop]), if_neg (by simp [hop]), if_neg (by simp [hop]), if_neg (by simp [hop]), if_neg (by simp [hop]), if_neg (by simp [hop]), if_neg (by simp [hop]), if_pos (by simp [hop])]
    rw [hla, if_pos rfl]
    refine ⟨rfl, ?_⟩
    have hT := Kd.R_take (m := s.m.length - 1) HR.out (by omega)
    exact R69_one (by simp) (Nat.le_trans HI.out.1.size (below_alloc HB8.out _).size) (ofT (at_ + 1, ⟨s.d, s.m.take (s.m.length - 1)⟩)) (R89_far hT (below_alloc HB8.out _))
end
end Go.Proofs.Ytnhipgmphhndhaa.Q
namespace Go.Proofs.Ytnhipgmphhndhaa.Q
open Go.RowKit Go.Proofs.YtnhipgmphhndhaaW.PrintWords Go.Proofs.YtnhipgmphhndhaaW.PrintLast Go.Proofs.YtnhipgmphhndhaaW.PrintMore
set_option linter.unusedVariables false
set_option linter.unusedSectionVars false
set_option linter.unusedSimpArgs false
set_option maxRecDepth 100000
/-! ### (*walker).next, by what the Op is -/
section
variable {w0 W : World} {g : Nat} {fs : List S32} {xs : List Int} {ts : List ByteArray} {lets n : Int} {f : S32}
set_option maxHeartbeats 4000000 in
theorem next_0 (hI : IsW w0 W g fs xs ts lets n f) {at_ : Int} (hat : 0 ≤ at_ ∧ at_ < (f.f3.length : Int)) (hl : f.f3.length ≤ 400) (hOk : OkIns (rd_T37 f.f3 at_)) {s : St} (hs : OkS s) (hm : s.m.length ≤ 1000) {v : Value} (hR : Kd.R k89 89 W w0.heap.size (fun _ => True) v s.m)
    (hne : (rd_T37 f.f3 at_).f0 ≠ 14 ∧ (rd_T37 f.f3 at_).f0 ≠ 15 ∧ (rd_T37 f.f3 at_).f0 ≠ 23 ∧ (rd_T37 f.f3 at_).f0 ≠ 30 ∧ (rd_T37 f.f3 at_).f0 ≠ 16 ∧ (rd_T37 f.f3 at_).f0 ≠ 17 ∧ (rd_T37 f.f3 at_).f0 ≠ 18 ∧ (rd_T37 f.f3 at_).f0 ≠ 21 ∧ (rd_T37 f.f3 at_).f0 ≠ 28 ∧ (rd_T37 f.f3 at_).f0 ≠ 26 ∧ (rd_T37 f.f3 at_).f0 ≠ 22 ∧ (rd_T37 f.f3 at_).f0 ≠ 27 ∧ (rd_T37 f.f3 at_).f0 ≠ 29) :
    Calls Try.prog 29 #[.pointer (some ⟨g, 0, none⟩), .int .i64 at_, .agg #[.int .i64 s.d, v]] W fun e w' => Below W.heap.size W w' ∧ ∃ u b, e = .returned (.tuple #[u, .bool b]) ∧
      NextOut w0 w' u b (nx1 fs xs.length ts.length lets n f (rd_T37 f.f3 at_) at_ s) := by
  have hu45 := Try.underlying45
  have hu32 := Try.underlying32
  have hu37 := Try.underlying37
  have hu52 := Try.underlying52
  have hu69 := Try.underlying69
  have hu30 := Try.underlying30
  have HI := Aside0.mk hI
  have HR := Aside0.mk hR
  obtain ⟨hB0, Af, cf, Ax, cx, At, ct, Ac, cc, hg, h1, h2, h3, h4⟩ := hI
  obtain ⟨A, c, rfl, hc, hC⟩ := Kd.R_reads hR
  obtain ⟨ad, e, hx0, hx1, hx2⟩ := at_T37 h4 at_ hat.1 hat.2
  cases e
  have y0 : ∀ o : Obj, (W.alloc o).cell? (ad.add (at_.toNat * 3)) = some (.int .i64 (rd_T37 f.f3 at_).f0) := fun o => ((below_alloc hB0 o).cell (World.block_lt_of_cell? w0 _ hx0)).trans hx0
  have y1 : ∀ o : Obj, (W.alloc o).cell? ⟨(ad.add (at_.toNat * 3)).block, (ad.add (at_.toNat * 3)).off + 1, none⟩ = some (.int .i64 (rd_T37 f.f3 at_).f1) := fun o => ((below_alloc hB0 o).cell (World.block_lt_of_cell? w0 _ hx1)).trans hx1
  have y2 : ∀ o : Obj, (W.alloc o).cell? ⟨(ad.add (at_.toNat * 3)).block, (ad.add (at_.toNat * 3)).off + 2, none⟩ = some (.int .i64 (rd_T37 f.f3 at_).f2) := fun o => ((below_alloc hB0 o).cell (World.block_lt_of_cell? w0 _ hx2)).trans hx2
  have c8 : ∀ o : Obj, (W.alloc o).cell? ⟨g, 8, none⟩ = some (.slice (some ad) f.f3.length cc) := fun o => (blk_cell (blk_alloc hg o) 8).trans rfl
  have p1 : (0 ≤ at_) = True := eq_true hat.1
  have p2 : (at_ < (f.f3.length : Int)) = True := eq_true hat.2
  have HC := Aside0.mk hC
  have HLC := Aside0.mk hc
  have hb0 := bse_ok hs
  have hT := takes_ok hOk
  have hP := puts_ok (rd_T37 f.f3 at_)
  have hwf : (Lit.int .i64 (rd_T37 f.f3 at_).f0).wf = true := WalkArith.wf_i64 (by have := hOk.1; have := hOk.2.1; omega)
  have w1 : IntKind.i64.wrap (s.d - takesI (rd_T37 f.f3 at_)) = s.d - takesI (rd_T37 f.f3 at_) := by rw [i64_w]; exact w64 _ (by have := hs.1; omega) (by have := hs.2.1; omega)
  have w2 : IntKind.i64.wrap (at_ + 1) = at_ + 1 := by rw [i64_w]; exact w64 _ (by have := hat.1; omega) (by have := hat.2; omega)
  have w3 : IntKind.i64.wrap (putsI (rd_T37 f.f3 at_) - takesI (rd_T37 f.f3 at_)) = putsI (rd_T37 f.f3 at_) - takesI (rd_T37 f.f3 at_) := by rw [i64_w]; exact w64 _ (by omega) (by omega)
  have w4 : wrap64 (s.d + (putsI (rd_T37 f.f3 at_) - takesI (rd_T37 f.f3 at_))) = s.d - takesI (rd_T37 f.f3 at_) + putsI (rd_T37 f.f3 at_) := (w64 _ (by have := hs.1; omega) (by have := hs.2.1; omega)).trans (by omega)
  have HM := Aside0.mk hm
  have HNE := Aside0.mk hne
  obtain ⟨n14, n15, n23, n30, n16, n17, n18, n21, n28, n26, n22, n27, n29⟩ := hne
  have hmem : (rd_T37 f.f3 at_).f0 ∈ [(33 : Int), 32, 31, 25, 24, 23, 20, 19, 18, 17, 15, 14, 13, 12, 11, 10, 9, 8, 7, 6, 5, 4, 3, 2, 1] := by
    simp only [List.mem_cons, List.not_mem_nil, or_false]
    have := hOk.1
    have := hOk.2.1
    omega
  have b14 : ((rd_T37 f.f3 at_).f0 == 14) = false := beq_eq_false_iff_ne.mpr n14
  have b15 : ((rd_T37 f.f3 at_).f0 == 15) = false := beq_eq_false_iff_ne.mpr n15
  have b23 : ((rd_T37 f.f3 at_).f0 == 23) = false := beq_eq_false_iff_ne.mpr n23
  have b30 : ((rd_T37 f.f3 at_).f0 == 30) = false := beq_eq_false_iff_ne.mpr n30
  have b16 : ((rd_T37 f.f3 at_).f0 == 16) = false := beq_eq_false_iff_ne.mpr n16
  have b17 : ((rd_T37 f.f3 at_).f0 == 17) = false := beq_eq_false_iff_ne.mpr n17
  have b18 : ((rd_T37 f.f3 at_).f0 == 18) = false := beq_eq_false_iff_ne.mpr n18
  have b21 : ((rd_T37 f.f3 at_).f0 == 21) = false := beq_eq_false_iff_ne.mpr n21
  have b28 : ((rd_T37 f.f3 at_).f0 == 28) = false := beq_eq_false_iff_ne.mpr n28
  have b26 : ((rd_T37 f.f3 at_).f0 == 26) = false := beq_eq_false_iff_ne.mpr n26
  have b22 : ((rd_T37 f.f3 at_).f0 == 22) = false := beq_eq_false_iff_ne.mpr n22
  have b27 : ((rd_T37 f.f3 at_).f0 == 27) = false := beq_eq_false_iff_ne.mpr n27
  have b29 : ((rd_T37 f.f3 at_).f0 == 29) = false := beq_eq_false_iff_ne.mpr n29
  clear n14 n15 n23 n30 n16 n17 n18 n21 n28 n26 n22 n27 n29
  clear hB0 hg h1 h2 h3 h4 hx0 hx1 hx2 hC hc
  generalize hi : rd_T37 f.f3 at_ = i at *
  clear hi
  go_enter Try.func29, Try.ntmps29
  go_wp2
  have HB := Aside0.mk (below_alloc (below_alloc (Below.refl W.heap.size W) (.cells #[.int .i64 s.d, .slice A s.m.length c] 52)) (.cells #[.int .i64 i.f0, .int .i64 i.f1, .int .i64 i.f2] 37))
  have BS := Aside0.mk (blk_alloc (blk_new W (.cells #[.int .i64 s.d, .slice A s.m.length c] 52)) (.cells #[.int .i64 i.f0, .int .i64 i.f1, .int .i64 i.f2] 37))
  have BI := Aside0.mk (blk_new2 W (.cells #[.int .i64 s.d, .slice A s.m.length c] 52) (.cells #[.int .i64 i.f0, .int .i64 i.f1, .int .i64 i.f2] 37))
  clear y0 y1 y2 c8
  generalize (W.alloc (.cells #[.int .i64 s.d, .slice A s.m.length c] 52)).alloc (.cells #[.int .i64 i.f0, .int .i64 i.f1, .int .i64 i.f2] 37) = W2 at HB BS BI ⊢
  have q0 := (blk_cell BI.out 0).trans rfl
  go_region_held3 (fun w' => w'.cell? ⟨W.heap.size + 1, 0, none⟩ = some (.int .i64 i.f0)) (go_keep) (first
    | (go_at_call 37; (with_reducible refine (v_rules _).mono ?_); rintro e w1 ⟨g1, vs, rfl, hbt, hkeys⟩; obtain ⟨vr, hrun, hvr⟩ := hbt.lookR hkeys i.f0 hwf hmem; have HB1 := Aside0.mk (below_step (below_drew1 HB.out) hbt.1); have BS1 := Aside0.mk (blk_below (blk_drew BS.out) hbt.1); have BI1 := Aside0.mk (blk_below (blk_drew BI.out) hbt.1); have r0 := (blk_cell BI1.out 0).trans rfl; obtain ⟨F, caps, rfl, he, hcl⟩ := (RuleV.ok hvr : RuleOk w0 w1 g fs xs ts lets n f vr i.f0); have HCL := Aside0.mk hcl; clear hbt hvr hcl hkeys HB BS BI q0))
  have r1 := (blk_cell BI1.out 1).trans rfl
  have r2 := (blk_cell BI1.out 2).trans rfl
  have hne : ∀ W : World, (binOp .neq 81 (.func (.func F) #[] caps) .nilFunc).run Try.prog W = .ok (.bool true) W := fun W => neq_func F caps W
  go_wp2_with fail
  have hcl2 := HCL.out w1 i (fun _ _ _ _ h => h) (HI.out.below HB1.out) rfl
  refine hcl2.mono ?_
  rintro e w2 ⟨rfl, hb⟩
  have HB2 := Aside0.mk (below_step HB1.out hb)
  have BS2 := Aside0.mk (blk_below BS1.out hb)
  have BI2 := Aside0.mk (blk_below BI1.out hb)
  clear hb HB1 BS1 BI1 r0 r1 r2 he hrun hne HCL hcl2
  have E1 := Aside0.mk (show okI fs xs.length ts.length lets n f i = false → nx1 fs xs.length ts.length lets n f i at_ s = none from fun h => by unfold nx1; rw [h]; rfl)
  have E2 := Aside0.mk (show okI fs xs.length ts.length lets n f i = true → s.d - takesI i < bse s.m → nx1 fs xs.length ts.length lets n f i at_ s = none from fun h1 h2 => by unfold nx1; rw [h1, if_pos rfl, if_pos h2])
  have E3 := Aside0.mk (show okI fs xs.length ts.length lets n f i = true → ¬ s.d - takesI i < bse s.m → nx1 fs xs.length ts.length lets n f i at_ s = goI at_ i s from fun h1 h2 => by unfold nx1; rw [h1, if_pos rfl, if_neg h2])
  generalize okI fs xs.length ts.length lets n f i = okb at *
  cases okb
  · go_wp2
    go_ret2
    exact ⟨HB2.out, .slice none 0 0, false, rfl, by rw [E1.out (by simp)]; exact nextOut_none⟩
  have q0 := (blk_cell BS2.out 0).trans rfl
  have q1 := (blk_cell BS2.out 1).trans rfl
  go_wp2
  by_cases hlt : s.d - takesI i < bse s.m
  · have hlt1 := decide_eq_true hlt
    have HLT := Aside0.mk hlt
    clear hlt
    go_region_held3 (fun w' => w'.cell? ⟨W.heap.size, 0, none⟩ = some (.int .i64 s.d) ∧ w'.cell? ⟨W.heap.size, 1, none⟩ = some (.slice A s.m.length c)) (go_keep) (first
      | (go_at_call 38; (with_reducible refine (verify_state_base.calls s.d A c s.m (bse s.m) _ (Kd.C_drew (Kd.C_below HC.out HB2.out)) HLC.out (base_f (by have := HM.out; omega))).mono ?_); rintro e w3 ⟨rfl, hb⟩; have HB3 := Aside0.mk (below_step (below_drew1 HB2.out) hb); have r0 := (blk_cell (blk_below (blk_drew BS2.out) hb) 0).trans rfl; have r1 := (blk_cell (blk_below (blk_drew BS2.out) hb) 1).trans rfl; clear hb))
    go_wp2
    go_ret2
    exact ⟨HB3.out, .slice none 0 0, false, rfl, by rw [E2.out (by simp) HLT.out]; exact nextOut_none⟩
  have hlt1 := decide_eq_false hlt
  have HLT := Aside0.mk hlt
  clear hlt
  go_region_held3 (fun w' => w'.cell? ⟨W.heap.size, 0, none⟩ = some (.int .i64 s.d) ∧ w'.cell? ⟨W.heap.size, 1, none⟩ = some (.slice A s.m.length c)) (go_keep) (first
    | (go_at_call 38; (with_reducible refine (verify_state_base.calls s.d A c s.m (bse s.m) _ (Kd.C_drew (Kd.C_below HC.out HB2.out)) HLC.out (base_f (by have := HM.out; omega))).mono ?_); rintro e w3 ⟨rfl, hb⟩; have HB3 := Aside0.mk (below_step (below_drew1 HB2.out) hb); have BS3 := Aside0.mk (blk_below (blk_drew BS2.out) hb); have BI3 := Aside0.mk (blk_below (blk_drew BI2.out) hb); have r0 := (blk_cell BS3.out 0).trans rfl; have r1 := (blk_cell BS3.out 1).trans rfl; clear hb))
  clear q0 q1
  have zz : ∀ (w : World) (j : Nat), (w.alloc (.cells #[.int .i64 (at_ + 1), .int .i64 (s.d - takesI i + putsI i), .slice A s.m.length c] 69)).cell? ⟨w.heap.size, j, none⟩ = #[Value.int .i64 (at_ + 1), .int .i64 (s.d - takesI i + putsI i), .slice A s.m.length c][j]? := fun w j => blk_cell (blk_new w _) j
  go_wp2_with (first
    | (go_at_call 39; (with_reducible refine (v_moved _ _ _ _ _ _).mono ?_); rintro e w4 ⟨rfl, hb⟩; have HB4 := Aside0.mk (below_step HB3.out hb); have BS4 := Aside0.mk (blk_below BS3.out hb); have BI4 := Aside0.mk (blk_below BI3.out hb); have u0 : ∀ o : Obj, (w4.alloc o).cell? ⟨W.heap.size + 1, 0, none⟩ = some (.int .i64 i.f0) := fun o => (blk_cell (blk_alloc BI4.out o) 0).trans rfl; have u1 : ∀ o : Obj, (w4.alloc o).cell? ⟨W.heap.size + 1, 1, none⟩ = some (.int .i64 i.f1) := fun o => (blk_cell (blk_alloc BI4.out o) 1).trans rfl; have u2 : ∀ o : Obj, (w4.alloc o).cell? ⟨W.heap.size + 1, 2, none⟩ = some (.int .i64 i.f2) := fun o => (blk_cell (blk_alloc BI4.out o) 2).trans rfl; have v0 : ∀ o : Obj, (w4.alloc o).cell? ⟨W.heap.size, 0, none⟩ = some (.int .i64 s.d) := fun o => (blk_cell (blk_alloc BS4.out o) 0).trans rfl; have v1 : ∀ o : Obj, (w4.alloc o).cell? ⟨W.heap.size, 1, none⟩ = some (.slice A s.m.length c) := fun o => (blk_cell (blk_alloc BS4.out o) 1).trans rfl; clear hb r0 r1))
  go_ret2
  refine ⟨below_alloc (below_alloc HB4.out _) _, _, true, rfl, ?_⟩
  rw [E3.out (by simp) HLT.out]
  obtain ⟨n14, n15, n23, n30, n16, n17, n18, n21, n28, n26, n22, n27, n29⟩ := HNE.out
  unfold goI
  rw [if_neg (by omega), if_neg (by omega), if_neg (by omega), if_neg (by omega), if_neg (by omega), if_neg (by omega), if_neg (by omega), if_neg (by omega), if_neg (by omega), if_neg (by omega), if_neg (by omega)]
  exact ⟨rfl, R69_one (by simp) (Nat.le_trans HI.out.1.size (below_alloc HB4.out _).size) (ofT (at_ + 1, ⟨s.d - takesI i + putsI i, s.m⟩)) (R89_far HR.out (below_alloc HB4.out _))⟩
theorem v_next (hI : IsW w0 W g fs xs ts lets n f) {at_ : Int} (hat : 0 ≤ at_ ∧ at_ < (f.f3.length : Int)) (hl : f.f3.length ≤ 400) (hOk : OkIns (rd_T37 f.f3 at_)) {s : St} (hs : OkS s) (hm : s.m.length ≤ 1000) {v : Value} (hR : Kd.R k89 89 W w0.heap.size (fun _ => True) v s.m)
     :
    Calls Try.prog 29 #[.pointer (some ⟨g, 0, none⟩), .int .i64 at_, .agg #[.int .i64 s.d, v]] W fun e w' => Below W.heap.size W w' ∧ ∃ u b, e = .returned (.tuple #[u, .bool b]) ∧
      NextOut w0 w' u b (nx1 fs xs.length ts.length lets n f (rd_T37 f.f3 at_) at_ s) := by
  by_cases h14 : (rd_T37 f.f3 at_).f0 = 14
  · exact next_14 hI hat hl hOk hs hm hR h14
  by_cases h15 : (rd_T37 f.f3 at_).f0 = 15
  · exact next_15 hI hat hl hOk hs hm hR h15
  by_cases h23 : (rd_T37 f.f3 at_).f0 = 23
  · exact next_23 hI hat hl hOk hs hm hR h23
  by_cases h30 : (rd_T37 f.f3 at_).f0 = 30
  · exact next_30 hI hat hl hOk hs hm hR h30
  by_cases h16 : (rd_T37 f.f3 at_).f0 = 16
  · exact next_16 hI hat hl hOk hs hm hR h16
  by_cases h17 : (rd_T37 f.f3 at_).f0 = 17
  · exact next_17 hI hat hl hOk hs hm hR h17
  by_cases h18 : (rd_T37 f.f3 at_).f0 = 18
  · exact next_18 hI hat hl hOk hs hm hR h18
  by_cases h21 : (rd_T37 f.f3 at_).f0 = 21
  · exact next_21 hI hat hl hOk hs hm hR h21
  by_cases h28 : (rd_T37 f.f3 at_).f0 = 28
  · exact next_28 hI hat hl hOk hs hm hR h28
  by_cases h26 : (rd_T37 f.f3 at_).f0 = 26
  · exact next_26 hI hat hl hOk hs hm hR h26
  by_cases h22 : (rd_T37 f.f3 at_).f0 = 22
  · exact next_22 hI hat hl hOk hs hm hR h22
  by_cases h27 : (rd_T37 f.f3 at_).f0 = 27
  · exact next_27 hI hat hl hOk hs hm hR h27
  by_cases h29 : (rd_T37 f.f3 at_).f0 = 29
  · exact next_29 hI hat hl hOk hs hm hR h29
  exact next_0 hI hat hl hOk hs hm hR ⟨h14, h15, h23, h30, h16, h17, h18, h21, h28, h26, h22, h27, h29⟩
end
end Go.Proofs.Ytnhipgmphhndhaa.Q
