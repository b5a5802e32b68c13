-- PRINTED by print.py (a twelfth state) out of the translation. Not trusted: Lean checks it.
import Derived.Test.YtnhipgmphhndhaaQx0
import Derived.Test.YtnhipgmphhndhaaQx3
import Derived.Test.YtnhipgmphhndhaaVi
import Derived.Test.YtnhipgmphhndhaaVn
namespace Go.Proofs.Ytnhipgmphhndhaa.Q
open Go.RowKit Go.Proofs.YtnhipgmphhndhaaW.PrintWords Go.Proofs.YtnhipgmphhndhaaW.PrintLast Go.Proofs.YtnhipgmphhndhaaW.PrintMore
attribute [local go_sem] max2_int min2_int max_two min_two max_three min_three max_four min_four   -- for this text's walks alone
set_option linter.unusedVariables false
set_option linter.unusedSectionVars false
set_option linter.unusedSimpArgs false

/-! ### selvagelaw14_VerifyMore: function 4 -/
mutual
noncomputable def selvagelaw14_VerifyMore.j0 : Nat → Int → ByteArray → List (S32) → List Int → List ByteArray → Int → Option (Bool)
 | 0, _, _, _, _, _, _ => none
 | k + 1, x1, x2, x269000, x269001, x269002, x269003 => (verify_Code.f x269000 x269001 x269002 x269003).bind fun t279 => (if t279 = 0 then (if x1 < (-4611686018427387904) then (selvagelaw14_VerifyMore.j1 k x1 x2 true x269000 x269001 x269002 x269003) else (if x1 > 4611686018427387903 then (selvagelaw14_VerifyMore.j1 k x1 x2 true x269000 x269001 x269002 x269003) else (selvagelaw14_VerifyMore.j1 k x1 x2 (decide (x269003 > 50)) x269000 x269001 x269002 x269003))) else (selvagelaw14_VerifyMore.j1 k x1 x2 true x269000 x269001 x269002 x269003))
noncomputable def selvagelaw14_VerifyMore.j1 : Nat → Int → ByteArray → Bool → List (S32) → List Int → List ByteArray → Int → Option (Bool)
 | 0, _, _, _, _, _, _, _ => none
 | k + 1, x1, x2, x29, x269000, x269001, x269002, x269003 => if x29 = true then ((selvagelaw14_lives.f).bind fun t280 => (some t280)) else (if x269001.length < 17592186044416 then (if x269002.length < 8796093022208 then (if x269000.length < 2932031007402 then ((verify_Code.f (x269000 ++ [(⟨0, 1, 1, (([(⟨3, 0, 0⟩ : S37), (⟨15, 0, 0⟩ : S37)] : List (S37)))⟩ : S32)]) (x269001 ++ [x1]) (x269002 ++ [x2]) (wrap64 (x269003 + 1))).bind fun t293 => (if t293 = 0 then ((selvagelaw14_lives.f).bind fun t294 => (some t294)) else (some false))) else (none)) else (none)) else (none))
end
noncomputable def selvagelaw14_VerifyMore.f (k : Nat) (l0_0 : List (S32)) (l0_1 : List Int) (l0_2 : List ByteArray) (a0_3 : Int) (a1 : Int) (a2 : ByteArray) : Option (Bool) := (selvageref13_Cut.f k l0_0 l0_1 l0_2 a0_3).bind fun bt269 => (if (a2.size : Int) > 60 then (if 0 ≤ 60 then (if 60 ≤ (a2.size : Int) then (selvagelaw14_VerifyMore.j0 k a1 (a2.extract 0 60) bt269.1 bt269.2.1 bt269.2.2.1 bt269.2.2.2) else (none)) else (none)) else (selvagelaw14_VerifyMore.j0 k a1 a2 bt269.1 bt269.2.1 bt269.2.2.1 bt269.2.2.2))
theorem selvagelaw14_VerifyMore.mono_l : ∀ k, (∀ y0 y1 y2 y3 y4 y5, LeO (selvagelaw14_VerifyMore.j0 k y0 y1 y2 y3 y4 y5) (selvagelaw14_VerifyMore.j0 (k + 1) y0 y1 y2 y3 y4 y5)) ∧ (∀ y0 y1 y2 y3 y4 y5 y6, LeO (selvagelaw14_VerifyMore.j1 k y0 y1 y2 y3 y4 y5 y6) (selvagelaw14_VerifyMore.j1 (k + 1) y0 y1 y2 y3 y4 y5 y6))
 | 0 => ⟨fun _ _ _ _ _ _ r h => by simp [selvagelaw14_VerifyMore.j0] at h, fun _ _ _ _ _ _ _ r h => by simp [selvagelaw14_VerifyMore.j1] at h⟩
 | k + 1 => by
  obtain ⟨ih0, ih1⟩ := selvagelaw14_VerifyMore.mono_l k
  refine ⟨?_, ?_⟩
  ·intro y0 y1 y2 y3 y4 y5
   unfold selvagelaw14_VerifyMore.j0
   repeat' first
   | (with_reducible exact ih0 _ _ _ _ _ _)
   | (with_reducible exact ih1 _ _ _ _ _ _ _)
   | (with_reducible exact selvageref13_Cut.mono _ _ _ _ _)
   | (with_reducible exact LeO.refl _)
   | (with_reducible exact LeO.none _)
   | (with_reducible refine LeO.ite ?_ ?_)
   | (with_reducible refine LeO.bind ?_ (fun _ => ?_))
   | exact ih0 _ _ _ _ _ _
   | exact ih1 _ _ _ _ _ _ _
   | exact selvageref13_Cut.mono _ _ _ _ _
   | exact LeO.none _
   | refine LeO.ite ?_ ?_
   | refine LeO.bind ?_ (fun _ => ?_)
  intro y0 y1 y2 y3 y4 y5 y6
  unfold selvagelaw14_VerifyMore.j1
  repeat' first
  | (with_reducible exact ih0 _ _ _ _ _ _)
  | (with_reducible exact ih1 _ _ _ _ _ _ _)
  | (with_reducible exact selvageref13_Cut.mono _ _ _ _ _)
  | (with_reducible exact LeO.refl _)
  | (with_reducible exact LeO.none _)
  | (with_reducible refine LeO.ite ?_ ?_)
  | (with_reducible refine LeO.bind ?_ (fun _ => ?_))
  | exact ih0 _ _ _ _ _ _
  | exact ih1 _ _ _ _ _ _ _
  | exact selvageref13_Cut.mono _ _ _ _ _
  | exact LeO.none _
  | refine LeO.ite ?_ ?_
  | refine LeO.bind ?_ (fun _ => ?_)
theorem selvagelaw14_VerifyMore.mono : ∀ a0 a1 a2 a3 a4 a5 k, LeO (selvagelaw14_VerifyMore.f k a0 a1 a2 a3 a4 a5) (selvagelaw14_VerifyMore.f (k + 1) a0 a1 a2 a3 a4 a5) := by
 intro a0 a1 a2 a3 a4 a5 k
 obtain ⟨ih0, ih1⟩ := selvagelaw14_VerifyMore.mono_l k
 unfold selvagelaw14_VerifyMore.f
 repeat' first
   | (with_reducible exact ih0 _ _ _ _ _ _)
   | (with_reducible exact ih1 _ _ _ _ _ _ _)
   | (with_reducible exact selvageref13_Cut.mono _ _ _ _ _)
   | (with_reducible exact LeO.refl _)
   | (with_reducible exact LeO.none _)
   | (with_reducible refine LeO.ite ?_ ?_)
   | (with_reducible refine LeO.bind ?_ (fun _ => ?_))
   | exact ih0 _ _ _ _ _ _
   | exact ih1 _ _ _ _ _ _ _
   | exact selvageref13_Cut.mono _ _ _ _ _
   | exact LeO.none _
   | refine LeO.ite ?_ ?_
   | refine LeO.bind ?_ (fun _ => ?_)
set_option maxHeartbeats 8000000 in
set_option maxRecDepth 100000 in
theorem selvagelaw14_VerifyMore.calls (k : Nat) (A0_0 : Option Addr) (c0_0 : Nat) (l0_0 : List (S32)) (A0_1 : Option Addr) (c0_1 : Nat) (l0_1 : List Int) (A0_2 : Option Addr) (c0_2 : Nat) (l0_2 : List ByteArray) (a0_3 : Int) (a1 : Int) (a2 : ByteArray) (r : Bool) (w : World) (hr0_0 : Kd.C k32 w A0_0 l0_0.length l0_0) (hc0_0 : l0_0.length ≤ c0_0) (hr0_1 : Kd.C (Kd.int .i64) w A0_1 l0_1.length l0_1) (hc0_1 : l0_1.length ≤ c0_1) (hr0_2 : Kd.C Kd.string w A0_2 l0_2.length l0_2) (hc0_2 : l0_2.length ≤ c0_2) (h : selvagelaw14_VerifyMore.f k l0_0 l0_1 l0_2 a0_3 a1 a2 = some r) :
  Calls Try.prog 4 #[.agg #[.slice A0_0 l0_0.length c0_0, .slice A0_1 l0_1.length c0_1, .slice A0_2 l0_2.length c0_2, .int .i64 a0_3], .int .i64 a1, .string a2] w fun e w' => e = .returned (.bool r) ∧ Below w.heap.size w w' := by
 have hu26 := Try.underlying26
 have hu37 := Try.underlying37
 have hu32 := Try.underlying32
 have HR0_0 := Aside0.mk hr0_0
 have HC0_0 := Aside0.mk hc0_0
 clear hr0_0 hc0_0
 have HR0_1 := Aside0.mk hr0_1
 have HC0_1 := Aside0.mk hc0_1
 clear hr0_1 hc0_1
 have HR0_2 := Aside0.mk hr0_2
 have HC0_2 := Aside0.mk hc0_2
 clear hr0_2 hc0_2
 have HB := Aside0.mk (Below.refl w.heap.size w)
 have H : ((selvageref13_Cut.f k l0_0 l0_1 l0_2 a0_3).bind fun bt269 => (if (a2.size : Int) > 60 then (if 0 ≤ 60 then (if 60 ≤ (a2.size : Int) then (selvagelaw14_VerifyMore.j0 k a1 (a2.extract 0 60) bt269.1 bt269.2.1 bt269.2.2.1 bt269.2.2.2) else (none)) else (none)) else (selvagelaw14_VerifyMore.j0 k a1 a2 bt269.1 bt269.2.1 bt269.2.2.1 bt269.2.2.2))) = some r := h
 clear h
 replace H := Option.bind_eq_some_iff.mp H
 obtain ⟨⟨t269, t272, t275, t278⟩, A40, H⟩ := H
 replace H : (if (a2.size : Int) > 60 then (if 0 ≤ 60 then (if 60 ≤ (a2.size : Int) then (selvagelaw14_VerifyMore.j0 k a1 (a2.extract 0 60) t269 t272 t275 t278) else (none)) else (none)) else (selvagelaw14_VerifyMore.j0 k a1 a2 t269 t272 t275 t278)) = some r := H
 have A4 := Aside0.mk A40
 clear A40
 have HC5 := Aside0.mk H
 clear H
 go_enter Try.func4, Try.ntmps4
 go_upto_if 11 with (first | ((with_reducible refine gate_dst (N := 3) rfl ?_); refine box_event ?hg (N := 3) ?hd (cs := #[.slice A0_0 l0_0.length c0_0, .slice A0_1 l0_1.length c0_1, .slice A0_2 l0_2.length c0_2, .int .i64 a0_3]) (t := 26) ?hr ?_; (case hd => rfl); (case hg => rfl); (case hr => first | (go_simp; done) | (go_simp; rfl)); intro gb268 hg w6 hbox hb; have n0_ := Aside0.mk (below_step (by repeat (first | (with_reducible first | exact HB.out | apply below_alloc | apply pw_below_drewN | apply below_drew1) | exact HB.out)) hb); have n1_ := Aside0.mk (hbox); have n2_ := Aside0.mk ((by rw [hg]; exact (below_size (by repeat (first | (with_reducible first | exact HB.out | apply below_alloc | apply pw_below_drewN | apply below_drew1) | exact HB.out))) : w.heap.size ≤ gb268)); have n3_ := Aside0.mk ((by rw [hg]; exact (below_size (by repeat (first | (with_reducible first | exact HB.out | apply below_alloc | apply pw_below_drewN | apply below_drew1) | exact HB.out))) : w.heap.size ≤ gb268)); clear HB; have HB := n0_; have BK268 := n1_; have GW268 := n2_; have GE268 := n3_; clear n0_ n1_ n2_ n3_; clear hb hbox hg; have hcz7_0 : w6.cell? ⟨gb268, 0, none⟩ = some (.slice A0_0 l0_0.length c0_0) := (blk_cell BK268.out 0).trans rfl; have hcz7_1 : w6.cell? ⟨gb268, 1, none⟩ = some (.slice A0_1 l0_1.length c0_1) := (blk_cell BK268.out 1).trans rfl; have hcz7_2 : w6.cell? ⟨gb268, 2, none⟩ = some (.slice A0_2 l0_2.length c0_2) := (blk_cell BK268.out 2).trans rfl; have hcz7_3 : w6.cell? ⟨gb268, 3, none⟩ = some (.int .i64 a0_3) := (blk_cell BK268.out 3).trans rfl; have hfz7_0 := blk_frozen BK268.out 0; have hfz7_1 := blk_frozen BK268.out 1; have hfz7_2 := blk_frozen BK268.out 2; have hfz7_3 := blk_frozen BK268.out 3) | ((with_reducible refine gate_callee (f := 8) rfl ?_); refine goesL_ (some 8) rfl rfl Try.func8 (by kernel_rfl) rfl #[.agg #[.slice A0_0 l0_0.length c0_0, .slice A0_1 l0_1.length c0_1, .slice A0_2 l0_2.length c0_2, .int .i64 a0_3]] rfl (by (try simp only [List.map_toArray, List.map_cons, List.map_nil]); first | done | rfl | (simp only [List.length_drop, List.length_take]; rfl)) ?_; (with_reducible refine (selvageref13_Cut.calls k _ _ l0_0 _ _ l0_1 _ _ l0_2 a0_3 t269 t272 t275 t278 _ ?side1 ?side2 ?side3 ?side4 ?side5 ?side6 A4.out).mono ?_); (case side1 => repeat (first | exact (Kd.C_below HR0_0.out HB.out) | (with_reducible refine Kd.C_alloc ?_ _) | (with_reducible refine Kd.C_drewN ?_ _) | (with_reducible refine Kd.C_drew ?_))); (case side2 => exact HC0_0.out); (case side3 => repeat (first | exact (Kd.C_below HR0_1.out HB.out) | (with_reducible refine Kd.C_alloc ?_ _) | (with_reducible refine Kd.C_drewN ?_ _) | (with_reducible refine Kd.C_drew ?_))); (case side4 => exact HC0_1.out); (case side5 => repeat (first | exact (Kd.C_below HR0_2.out HB.out) | (with_reducible refine Kd.C_alloc ?_ _) | (with_reducible refine Kd.C_drewN ?_ _) | (with_reducible refine Kd.C_drew ?_))); (case side6 => exact HC0_2.out); rintro e w8 ⟨v270, v273, v276, rfl, ho0, ho1, ho2, hb⟩; refine ⟨_, rfl, ?_⟩; have n0_ := Aside0.mk (Kd.S_lower ho0 (below_size (by repeat (first | (with_reducible first | exact HB.out | apply below_alloc | apply pw_below_drewN | apply below_drew1 | refine below_set ?_ GE268.out) | exact HB.out)))); have n1_ := Aside0.mk (Kd.R_lower ho1 (below_size (by repeat (first | (with_reducible first | exact HB.out | apply below_alloc | apply pw_below_drewN | apply below_drew1 | refine below_set ?_ GE268.out) | exact HB.out)))); have n2_ := Aside0.mk (Kd.R_lower ho2 (below_size (by repeat (first | (with_reducible first | exact HB.out | apply below_alloc | apply pw_below_drewN | apply below_drew1 | refine below_set ?_ GE268.out) | exact HB.out)))); have n3_ := Aside0.mk (blk_below (g := gb268) (o := .cells #[.slice A0_0 l0_0.length c0_0, .slice A0_1 l0_1.length c0_1, .slice A0_2 l0_2.length c0_2, .int .i64 a0_3] 26 (0, 0)) (by (with_reducible repeat (first | refine blk_drewN ?_ _ | refine blk_drew ?_ | refine blk_alloc ?_ _)); exact BK268.out) hb); have n4_ := Aside0.mk (below_step (by repeat (first | (with_reducible first | exact HB.out | apply below_alloc | apply pw_below_drewN | apply below_drew1 | refine below_set ?_ GE268.out) | exact HB.out)) hb); clear BK268; clear HB; have HO271 := n0_; have HO274 := n1_; have HO277 := n2_; have BK268 := n3_; have HB := n4_; clear n0_ n1_ n2_ n3_ n4_; (try clear hb); (try clear hb2); (try clear hk); (try clear hi); (try clear ho0); (try clear ho1); (try clear ho2); obtain ⟨Ao9, co9, eo9⟩ := Kd.S_slice HO271.out; subst eo9; have hcz10_0 : w8.cell? ⟨gb268, 0, none⟩ = some (.slice A0_0 l0_0.length c0_0) := (blk_cell BK268.out 0).trans rfl; have hcz10_1 : w8.cell? ⟨gb268, 1, none⟩ = some (.slice A0_1 l0_1.length c0_1) := (blk_cell BK268.out 1).trans rfl; have hcz10_2 : w8.cell? ⟨gb268, 2, none⟩ = some (.slice A0_2 l0_2.length c0_2) := (blk_cell BK268.out 2).trans rfl; have hcz10_3 : w8.cell? ⟨gb268, 3, none⟩ = some (.int .i64 a0_3) := (blk_cell BK268.out 3).trans rfl; have hfz10_0 := blk_frozen BK268.out 0; have hfz10_1 := blk_frozen BK268.out 1; have hfz10_2 := blk_frozen BK268.out 2; have hfz10_3 := blk_frozen BK268.out 3; obtain ⟨Ao11, co11, eo11⟩ := Kd.R_slice HO274.out; subst eo11; obtain ⟨Ao12, co12, eo12⟩ := Kd.R_slice HO277.out; subst eo12))
 (try simp only [Act.put, List.setIfInBounds_toArray, List.set_cons_zero, List.set_cons_succ])
 go_cut [2] (fun v2 wc => ∃ (kq : Nat) (x2_4 : ByteArray), v2 = .string x2_4 ∧ Aside0 (selvagelaw14_VerifyMore.j0 kq a1 x2_4 t269 t272 t275 t278 = some r) ∧ Aside0 (kq ≤ k) ∧ Aside0 (Kd.S k32 32 wc w.heap.size (fun _ => True) (.slice Ao9 t269.length co9) t269) ∧ Aside0 (Kd.R (Kd.int .i64) 3 wc w.heap.size (fun _ => True) (.slice Ao11 t272.length co11) t272) ∧ Aside0 (Kd.R Kd.string 9 wc w.heap.size (fun _ => True) (.slice Ao12 t275.length co12) t275) ∧ Aside0 (wc.heap[gb268]? = some (.cells #[(.slice Ao9 t269.length co9), (.slice Ao11 t272.length co11), (.slice Ao12 t275.length co12), .int .i64 t278] 26 (0, 0))) ∧ Aside0 (Below w.heap.size w wc))
 case first =>
  have H := HC5.out
  clear HC5
  by_cases c13 : (a2.size : Int) > 60
  ·rw [if_pos c13] at H
   have c13b0 : decide (60 < (a2.size : Int)) = true := decide_eq_true c13
   have c13b1 : decide (60 < a2.size) = true := decide_eq_true (by omega)
   clear c13
   (first | rw [c13b0] | (simp only [i64_w, i32_w]; rw [c13b0]) | skip)
   by_cases c14 : 0 ≤ 60
   ·rw [if_pos c14] at H
    have c14b0 := eq_true c14
    have c14b1 : decide (0 ≤ 60) = true := decide_eq_true c14
    clear c14
    by_cases c15 : 60 ≤ (a2.size : Int)
    ·rw [if_pos c15] at H
     have c15b0 := eq_true c15
     have c15b1 : decide (60 ≤ (a2.size : Int)) = true := decide_eq_true c15
     clear c15
     have H' := Aside0.mk H
     clear H
     go_wp2
     go_meet
     case rel => exact ⟨_, (a2.extract 0 60), (by first | rfl | (simp; done) | (simp [*]; done)), H', ⟨by first | omega | exact Nat.le_refl _⟩, ⟨by (with_reducible repeat (first | apply Kd.S_alloc | apply Kd.S_drewN | apply Kd.S_drew)); exact Kd.S_mono (Kd.S_far (p := ⟨gb268, 3, none⟩) (Kd.S_far (p := ⟨gb268, 2, none⟩) (Kd.S_far (p := ⟨gb268, 1, none⟩) (Kd.S_far (p := ⟨gb268, 0, none⟩) (Kd.S_types HO271.out BK268.out (by decide)) (fun _ hk => hk.2) (.slice Ao9 t269.length co9)) (fun _ hk => hk.2) (.slice Ao11 t272.length co11)) (fun _ hk => hk.2) (.slice Ao12 t275.length co12)) (fun _ hk => hk.2) (.int .i64 t278)) (fun _ hk => trivial)⟩, ⟨by (with_reducible repeat (first | apply Kd.R_alloc | apply Kd.R_drewN | apply Kd.R_drew)); exact Kd.R_mono (Kd.R_far (p := ⟨gb268, 3, none⟩) (Kd.R_far (p := ⟨gb268, 2, none⟩) (Kd.R_far (p := ⟨gb268, 1, none⟩) (Kd.R_far (p := ⟨gb268, 0, none⟩) (Kd.R_types HO274.out BK268.out (by decide)) (fun _ hk => hk.2) (.slice Ao9 t269.length co9)) (fun _ hk => hk.2) (.slice Ao11 t272.length co11)) (fun _ hk => hk.2) (.slice Ao12 t275.length co12)) (fun _ hk => hk.2) (.int .i64 t278)) (fun _ hk => trivial)⟩, ⟨by (with_reducible repeat (first | apply Kd.R_alloc | apply Kd.R_drewN | apply Kd.R_drew)); exact Kd.R_mono (Kd.R_far (p := ⟨gb268, 3, none⟩) (Kd.R_far (p := ⟨gb268, 2, none⟩) (Kd.R_far (p := ⟨gb268, 1, none⟩) (Kd.R_far (p := ⟨gb268, 0, none⟩) (Kd.R_types HO277.out BK268.out (by decide)) (fun _ hk => hk.2) (.slice Ao9 t269.length co9)) (fun _ hk => hk.2) (.slice Ao11 t272.length co11)) (fun _ hk => hk.2) (.slice Ao12 t275.length co12)) (fun _ hk => hk.2) (.int .i64 t278)) (fun _ hk => trivial)⟩, ⟨by (with_reducible repeat (first | refine blk_drewN ?_ _ | refine blk_drew ?_ | refine blk_alloc ?_ _)); refine blk_put (cs := #[.slice Ao9 t269.length co9, .slice Ao11 t272.length co11, .slice Ao12 t275.length co12, .int .i64 a0_3]) ?_ 3 _ rfl; (with_reducible repeat (first | refine blk_drewN ?_ _ | refine blk_drew ?_ | refine blk_alloc ?_ _)); refine blk_put (cs := #[.slice Ao9 t269.length co9, .slice Ao11 t272.length co11, .slice A0_2 l0_2.length c0_2, .int .i64 a0_3]) ?_ 2 _ rfl; (with_reducible repeat (first | refine blk_drewN ?_ _ | refine blk_drew ?_ | refine blk_alloc ?_ _)); refine blk_put (cs := #[.slice Ao9 t269.length co9, .slice A0_1 l0_1.length c0_1, .slice A0_2 l0_2.length c0_2, .int .i64 a0_3]) ?_ 1 _ rfl; (with_reducible repeat (first | refine blk_drewN ?_ _ | refine blk_drew ?_ | refine blk_alloc ?_ _)); refine blk_put (cs := #[.slice A0_0 l0_0.length c0_0, .slice A0_1 l0_1.length c0_1, .slice A0_2 l0_2.length c0_2, .int .i64 a0_3]) ?_ 0 _ rfl; (with_reducible repeat (first | refine blk_drewN ?_ _ | refine blk_drew ?_ | refine blk_alloc ?_ _)); exact BK268.out⟩, ⟨by repeat (first | (with_reducible first | exact HB.out | apply below_alloc | apply pw_below_drewN | apply below_drew1 | refine below_set ?_ GE268.out) | exact HB.out)⟩⟩
    rw [if_neg c15] at H
    exact absurd H (by simp)
   rw [if_neg c14] at H
   exact absurd H (by simp)
  rw [if_neg c13] at H
  have c13b0 : decide (60 < (a2.size : Int)) = false := decide_eq_false c13
  have c13b1 : decide (60 < a2.size) = false := decide_eq_false (by omega)
  clear c13
  (first | rw [c13b0] | (simp only [i64_w, i32_w]; rw [c13b0]) | skip)
  have H' := Aside0.mk H
  clear H
  go_wp2
  go_meet
  case rel => exact ⟨_, (a2), (by first | rfl | (simp; done) | (simp [*]; done)), H', ⟨by first | omega | exact Nat.le_refl _⟩, ⟨by (with_reducible repeat (first | apply Kd.S_alloc | apply Kd.S_drewN | apply Kd.S_drew)); exact Kd.S_mono (Kd.S_far (p := ⟨gb268, 3, none⟩) (Kd.S_far (p := ⟨gb268, 2, none⟩) (Kd.S_far (p := ⟨gb268, 1, none⟩) (Kd.S_far (p := ⟨gb268, 0, none⟩) (Kd.S_types HO271.out BK268.out (by decide)) (fun _ hk => hk.2) (.slice Ao9 t269.length co9)) (fun _ hk => hk.2) (.slice Ao11 t272.length co11)) (fun _ hk => hk.2) (.slice Ao12 t275.length co12)) (fun _ hk => hk.2) (.int .i64 t278)) (fun _ hk => trivial)⟩, ⟨by (with_reducible repeat (first | apply Kd.R_alloc | apply Kd.R_drewN | apply Kd.R_drew)); exact Kd.R_mono (Kd.R_far (p := ⟨gb268, 3, none⟩) (Kd.R_far (p := ⟨gb268, 2, none⟩) (Kd.R_far (p := ⟨gb268, 1, none⟩) (Kd.R_far (p := ⟨gb268, 0, none⟩) (Kd.R_types HO274.out BK268.out (by decide)) (fun _ hk => hk.2) (.slice Ao9 t269.length co9)) (fun _ hk => hk.2) (.slice Ao11 t272.length co11)) (fun _ hk => hk.2) (.slice Ao12 t275.length co12)) (fun _ hk => hk.2) (.int .i64 t278)) (fun _ hk => trivial)⟩, ⟨by (with_reducible repeat (first | apply Kd.R_alloc | apply Kd.R_drewN | apply Kd.R_drew)); exact Kd.R_mono (Kd.R_far (p := ⟨gb268, 3, none⟩) (Kd.R_far (p := ⟨gb268, 2, none⟩) (Kd.R_far (p := ⟨gb268, 1, none⟩) (Kd.R_far (p := ⟨gb268, 0, none⟩) (Kd.R_types HO277.out BK268.out (by decide)) (fun _ hk => hk.2) (.slice Ao9 t269.length co9)) (fun _ hk => hk.2) (.slice Ao11 t272.length co11)) (fun _ hk => hk.2) (.slice Ao12 t275.length co12)) (fun _ hk => hk.2) (.int .i64 t278)) (fun _ hk => trivial)⟩, ⟨by (with_reducible repeat (first | refine blk_drewN ?_ _ | refine blk_drew ?_ | refine blk_alloc ?_ _)); refine blk_put (cs := #[.slice Ao9 t269.length co9, .slice Ao11 t272.length co11, .slice Ao12 t275.length co12, .int .i64 a0_3]) ?_ 3 _ rfl; (with_reducible repeat (first | refine blk_drewN ?_ _ | refine blk_drew ?_ | refine blk_alloc ?_ _)); refine blk_put (cs := #[.slice Ao9 t269.length co9, .slice Ao11 t272.length co11, .slice A0_2 l0_2.length c0_2, .int .i64 a0_3]) ?_ 2 _ rfl; (with_reducible repeat (first | refine blk_drewN ?_ _ | refine blk_drew ?_ | refine blk_alloc ?_ _)); refine blk_put (cs := #[.slice Ao9 t269.length co9, .slice A0_1 l0_1.length c0_1, .slice A0_2 l0_2.length c0_2, .int .i64 a0_3]) ?_ 1 _ rfl; (with_reducible repeat (first | refine blk_drewN ?_ _ | refine blk_drew ?_ | refine blk_alloc ?_ _)); refine blk_put (cs := #[.slice A0_0 l0_0.length c0_0, .slice A0_1 l0_1.length c0_1, .slice A0_2 l0_2.length c0_2, .int .i64 a0_3]) ?_ 0 _ rfl; (with_reducible repeat (first | refine blk_drewN ?_ _ | refine blk_drew ?_ | refine blk_alloc ?_ _)); exact BK268.out⟩, ⟨by repeat (first | (with_reducible first | exact HB.out | apply below_alloc | apply pw_below_drewN | apply below_drew1 | refine below_set ?_ GE268.out) | exact HB.out)⟩⟩
 case rest =>
  clear HC5
  try clear c1
  try clear p2
  try clear c4
  try clear c8
  try clear c13
  try clear c13b0
  try clear c13b1
  try clear c14
  try clear c14b0
  try clear c14b1
  try clear c15
  try clear c15b0
  try clear c15b1
  try clear hcz10_0
  try clear hcz10_1
  try clear hcz10_2
  try clear hcz10_3
  try clear hcz7_0
  try clear hcz7_1
  try clear hcz7_2
  try clear hcz7_3
  try clear hfz10_0
  try clear hfz10_1
  try clear hfz10_2
  try clear hfz10_3
  try clear hfz7_0
  try clear hfz7_1
  try clear hfz7_2
  try clear hfz7_3
  obtain ⟨kq, x2_4, rfl, HA, HJ4, HO_269000, HO_269001, HO_269002, BK268, HB⟩ := hcut
  cases kq with
  | zero => exact absurd HA.out (by simp [selvagelaw14_VerifyMore.j0])
  | succ kj4 =>
   have H := HA.out
   clear HA
   simp only [selvagelaw14_VerifyMore.j0] at H
   have HC16 := Aside0.mk H
   clear H
   go_upto_region 4 with (fail)
   go_cut [29] (fun v29 wc => ∃ (kq : Nat) (x29_15 : Bool), v29 = .bool x29_15 ∧ Aside0 (selvagelaw14_VerifyMore.j1 kq a1 x2_4 x29_15 t269 t272 t275 t278 = some r) ∧ Aside0 (kq ≤ kj4) ∧ Aside0 (Kd.S k32 32 wc w.heap.size (fun _ => True) (.slice Ao9 t269.length co9) t269) ∧ Aside0 (Kd.R (Kd.int .i64) 3 wc w.heap.size (fun _ => True) (.slice Ao11 t272.length co11) t272) ∧ Aside0 (Kd.R Kd.string 9 wc w.heap.size (fun _ => True) (.slice Ao12 t275.length co12) t275) ∧ Aside0 (wc.heap[gb268]? = some (.cells #[(.slice Ao9 t269.length co9), (.slice Ao11 t272.length co11), (.slice Ao12 t275.length co12), .int .i64 t278] 26 (0, 0))) ∧ Aside0 (Below w.heap.size w wc))
   case first =>
    have H := HC16.out
    clear HC16
    replace H := Option.bind_eq_some_iff.mp H
    obtain ⟨t279, A170, H⟩ := H
    replace H : (if t279 = 0 then (if a1 < (-4611686018427387904) then (selvagelaw14_VerifyMore.j1 kj4 a1 x2_4 true t269 t272 t275 t278) else (if a1 > 4611686018427387903 then (selvagelaw14_VerifyMore.j1 kj4 a1 x2_4 true t269 t272 t275 t278) else (selvagelaw14_VerifyMore.j1 kj4 a1 x2_4 (decide (t278 > 50)) t269 t272 t275 t278))) else (selvagelaw14_VerifyMore.j1 kj4 a1 x2_4 true t269 t272 t275 t278)) = some r := H
    have A17 := Aside0.mk A170
    clear A170
    by_cases c18 : t279 = 0
    ·rw [if_pos c18] at H
     have c18b0 : (t279 == 0) = true := beq_iff_eq.mpr c18
     have c18b1 : (t279 != 0) = false := bne_eq_false_iff_eq.mpr c18
     clear c18
     (first | rw [c18b0] | (simp only [i64_w, i32_w]; rw [c18b0]) | skip)
     by_cases c19 : a1 < (-4611686018427387904)
     ·rw [if_pos c19] at H
      have c19b0 : decide (a1 < (-4611686018427387904)) = true := decide_eq_true c19
      clear c19
      have H' := Aside0.mk H
      clear H
      have hcz20_0 : wc.cell? ⟨gb268, 0, none⟩ = some (.slice Ao9 t269.length co9) := (blk_cell BK268.out 0).trans rfl
      have hcz20_1 : wc.cell? ⟨gb268, 1, none⟩ = some (.slice Ao11 t272.length co11) := (blk_cell BK268.out 1).trans rfl
      have hcz20_2 : wc.cell? ⟨gb268, 2, none⟩ = some (.slice Ao12 t275.length co12) := (blk_cell BK268.out 2).trans rfl
      have hcz20_3 : wc.cell? ⟨gb268, 3, none⟩ = some (.int .i64 t278) := (blk_cell BK268.out 3).trans rfl
      have hfz20_0 := blk_frozen BK268.out 0
      have hfz20_1 := blk_frozen BK268.out 1
      have hfz20_2 := blk_frozen BK268.out 2
      have hfz20_3 := blk_frozen BK268.out 3
      go_wp2_with (first | ((with_reducible refine gate_callee (f := 12) rfl ?_); refine goesL_ (some 15) rfl rfl Try.func12 (by kernel_rfl) rfl #[.agg #[.slice Ao9 t269.length co9, .slice Ao11 t272.length co11, .slice Ao12 t275.length co12, .int .i64 t278]] rfl (by (try simp only [List.map_toArray, List.map_cons, List.map_nil]); first | done | rfl | (simp only [List.length_drop, List.length_take]; rfl)) ?_; (with_reducible refine (verify_Code.calls _ _ t269 _ _ t272 _ _ t275 t278 t279 _ ?side1 ?side2 ?side3 ?side4 ?side5 ?side6 A17.out).mono ?_); (case side1 => repeat (first | exact (Kd.S_reads' HO_269000.out).2.2 | (with_reducible refine Kd.C_alloc ?_ _) | (with_reducible refine Kd.C_drewN ?_ _) | (with_reducible refine Kd.C_drew ?_))); (case side2 => exact (Kd.S_reads' HO_269000.out).2.1); (case side3 => repeat (first | exact (Kd.R_reads' HO_269001.out).2.2 | (with_reducible refine Kd.C_alloc ?_ _) | (with_reducible refine Kd.C_drewN ?_ _) | (with_reducible refine Kd.C_drew ?_))); (case side4 => exact (Kd.R_reads' HO_269001.out).2.1); (case side5 => repeat (first | exact (Kd.R_reads' HO_269002.out).2.2 | (with_reducible refine Kd.C_alloc ?_ _) | (with_reducible refine Kd.C_drewN ?_ _) | (with_reducible refine Kd.C_drew ?_))); (case side6 => exact (Kd.R_reads' HO_269002.out).2.1); rintro e w21 ⟨rfl, hb⟩; refine ⟨_, rfl, ?_⟩; have n0_ := Aside0.mk (Kd.S_below (by (with_reducible repeat (first | apply Kd.S_alloc | apply Kd.S_drewN | apply Kd.S_drew)); exact HO_269000.out) hb); have n1_ := Aside0.mk (Kd.R_below (by (with_reducible repeat (first | apply Kd.R_alloc | apply Kd.R_drewN | apply Kd.R_drew)); exact HO_269001.out) hb); have n2_ := Aside0.mk (Kd.R_below (by (with_reducible repeat (first | apply Kd.R_alloc | apply Kd.R_drewN | apply Kd.R_drew)); exact HO_269002.out) hb); have n3_ := Aside0.mk (blk_below (g := gb268) (o := .cells #[.slice Ao9 t269.length co9, .slice Ao11 t272.length co11, .slice Ao12 t275.length co12, .int .i64 t278] 26 (0, 0)) (by (with_reducible repeat (first | refine blk_drewN ?_ _ | refine blk_drew ?_ | refine blk_alloc ?_ _)); exact BK268.out) hb); have n4_ := Aside0.mk (below_step (by repeat (first | (with_reducible first | exact HB.out | apply below_alloc | apply pw_below_drewN | apply below_drew1 | refine below_set ?_ GE268.out) | exact HB.out)) hb); clear HO_269000; clear HO_269001; clear HO_269002; clear BK268; clear HB; have HO_269000 := n0_; have HO_269001 := n1_; have HO_269002 := n2_; have BK268 := n3_; have HB := n4_; clear n0_ n1_ n2_ n3_ n4_; (try clear hb); (try clear hb2); (try clear hk); (try clear hi)))
      go_meet
      case rel => exact ⟨_, (true), (by first | rfl | (simp; done) | (simp [*]; done)), H', ⟨by have := HJ4.out; first | omega | exact Nat.le_refl _⟩, ⟨by (with_reducible repeat (first | apply Kd.S_alloc | apply Kd.S_drewN | apply Kd.S_drew)); exact HO_269000.out⟩, ⟨by (with_reducible repeat (first | apply Kd.R_alloc | apply Kd.R_drewN | apply Kd.R_drew)); exact HO_269001.out⟩, ⟨by (with_reducible repeat (first | apply Kd.R_alloc | apply Kd.R_drewN | apply Kd.R_drew)); exact HO_269002.out⟩, ⟨by (with_reducible repeat (first | refine blk_drewN ?_ _ | refine blk_drew ?_ | refine blk_alloc ?_ _)); exact BK268.out⟩, ⟨by repeat (first | (with_reducible first | exact HB.out | apply below_alloc | apply pw_below_drewN | apply below_drew1 | refine below_set ?_ GE268.out) | exact HB.out)⟩⟩
     rw [if_neg c19] at H
     have c19b0 : decide (a1 < (-4611686018427387904)) = false := decide_eq_false c19
     clear c19
     by_cases c22 : a1 > 4611686018427387903
     ·rw [if_pos c22] at H
      have c22b0 : decide (4611686018427387903 < a1) = true := decide_eq_true c22
      clear c22
      have H' := Aside0.mk H
      clear H
      have hcz23_0 : wc.cell? ⟨gb268, 0, none⟩ = some (.slice Ao9 t269.length co9) := (blk_cell BK268.out 0).trans rfl
      have hcz23_1 : wc.cell? ⟨gb268, 1, none⟩ = some (.slice Ao11 t272.length co11) := (blk_cell BK268.out 1).trans rfl
      have hcz23_2 : wc.cell? ⟨gb268, 2, none⟩ = some (.slice Ao12 t275.length co12) := (blk_cell BK268.out 2).trans rfl
      have hcz23_3 : wc.cell? ⟨gb268, 3, none⟩ = some (.int .i64 t278) := (blk_cell BK268.out 3).trans rfl
      have hfz23_0 := blk_frozen BK268.out 0
      have hfz23_1 := blk_frozen BK268.out 1
      have hfz23_2 := blk_frozen BK268.out 2
      have hfz23_3 := blk_frozen BK268.out 3
      go_wp2_with (first | ((with_reducible refine gate_callee (f := 12) rfl ?_); refine goesL_ (some 15) rfl rfl Try.func12 (by kernel_rfl) rfl #[.agg #[.slice Ao9 t269.length co9, .slice Ao11 t272.length co11, .slice Ao12 t275.length co12, .int .i64 t278]] rfl (by (try simp only [List.map_toArray, List.map_cons, List.map_nil]); first | done | rfl | (simp only [List.length_drop, List.length_take]; rfl)) ?_; (with_reducible refine (verify_Code.calls _ _ t269 _ _ t272 _ _ t275 t278 t279 _ ?side1 ?side2 ?side3 ?side4 ?side5 ?side6 A17.out).mono ?_); (case side1 => repeat (first | exact (Kd.S_reads' HO_269000.out).2.2 | (with_reducible refine Kd.C_alloc ?_ _) | (with_reducible refine Kd.C_drewN ?_ _) | (with_reducible refine Kd.C_drew ?_))); (case side2 => exact (Kd.S_reads' HO_269000.out).2.1); (case side3 => repeat (first | exact (Kd.R_reads' HO_269001.out).2.2 | (with_reducible refine Kd.C_alloc ?_ _) | (with_reducible refine Kd.C_drewN ?_ _) | (with_reducible refine Kd.C_drew ?_))); (case side4 => exact (Kd.R_reads' HO_269001.out).2.1); (case side5 => repeat (first | exact (Kd.R_reads' HO_269002.out).2.2 | (with_reducible refine Kd.C_alloc ?_ _) | (with_reducible refine Kd.C_drewN ?_ _) | (with_reducible refine Kd.C_drew ?_))); (case side6 => exact (Kd.R_reads' HO_269002.out).2.1); rintro e w24 ⟨rfl, hb⟩; refine ⟨_, rfl, ?_⟩; have n0_ := Aside0.mk (Kd.S_below (by (with_reducible repeat (first | apply Kd.S_alloc | apply Kd.S_drewN | apply Kd.S_drew)); exact HO_269000.out) hb); have n1_ := Aside0.mk (Kd.R_below (by (with_reducible repeat (first | apply Kd.R_alloc | apply Kd.R_drewN | apply Kd.R_drew)); exact HO_269001.out) hb); have n2_ := Aside0.mk (Kd.R_below (by (with_reducible repeat (first | apply Kd.R_alloc | apply Kd.R_drewN | apply Kd.R_drew)); exact HO_269002.out) hb); have n3_ := Aside0.mk (blk_below (g := gb268) (o := .cells #[.slice Ao9 t269.length co9, .slice Ao11 t272.length co11, .slice Ao12 t275.length co12, .int .i64 t278] 26 (0, 0)) (by (with_reducible repeat (first | refine blk_drewN ?_ _ | refine blk_drew ?_ | refine blk_alloc ?_ _)); exact BK268.out) hb); have n4_ := Aside0.mk (below_step (by repeat (first | (with_reducible first | exact HB.out | apply below_alloc | apply pw_below_drewN | apply below_drew1 | refine below_set ?_ GE268.out) | exact HB.out)) hb); clear HO_269000; clear HO_269001; clear HO_269002; clear BK268; clear HB; have HO_269000 := n0_; have HO_269001 := n1_; have HO_269002 := n2_; have BK268 := n3_; have HB := n4_; clear n0_ n1_ n2_ n3_ n4_; (try clear hb); (try clear hb2); (try clear hk); (try clear hi)))
      go_meet
      case rel => exact ⟨_, (true), (by first | rfl | (simp; done) | (simp [*]; done)), H', ⟨by have := HJ4.out; first | omega | exact Nat.le_refl _⟩, ⟨by (with_reducible repeat (first | apply Kd.S_alloc | apply Kd.S_drewN | apply Kd.S_drew)); exact HO_269000.out⟩, ⟨by (with_reducible repeat (first | apply Kd.R_alloc | apply Kd.R_drewN | apply Kd.R_drew)); exact HO_269001.out⟩, ⟨by (with_reducible repeat (first | apply Kd.R_alloc | apply Kd.R_drewN | apply Kd.R_drew)); exact HO_269002.out⟩, ⟨by (with_reducible repeat (first | refine blk_drewN ?_ _ | refine blk_drew ?_ | refine blk_alloc ?_ _)); exact BK268.out⟩, ⟨by repeat (first | (with_reducible first | exact HB.out | apply below_alloc | apply pw_below_drewN | apply below_drew1 | refine below_set ?_ GE268.out) | exact HB.out)⟩⟩
     rw [if_neg c22] at H
     have c22b0 : decide (4611686018427387903 < a1) = false := decide_eq_false c22
     clear c22
     have H' := Aside0.mk H
     clear H
     have hcz25_0 : wc.cell? ⟨gb268, 0, none⟩ = some (.slice Ao9 t269.length co9) := (blk_cell BK268.out 0).trans rfl
     have hcz25_1 : wc.cell? ⟨gb268, 1, none⟩ = some (.slice Ao11 t272.length co11) := (blk_cell BK268.out 1).trans rfl
     have hcz25_2 : wc.cell? ⟨gb268, 2, none⟩ = some (.slice Ao12 t275.length co12) := (blk_cell BK268.out 2).trans rfl
     have hcz25_3 : wc.cell? ⟨gb268, 3, none⟩ = some (.int .i64 t278) := (blk_cell BK268.out 3).trans rfl
     have hfz25_0 := blk_frozen BK268.out 0
     have hfz25_1 := blk_frozen BK268.out 1
     have hfz25_2 := blk_frozen BK268.out 2
     have hfz25_3 := blk_frozen BK268.out 3
     go_wp2_with (first | ((with_reducible refine gate_callee (f := 12) rfl ?_); refine goesL_ (some 15) rfl rfl Try.func12 (by kernel_rfl) rfl #[.agg #[.slice Ao9 t269.length co9, .slice Ao11 t272.length co11, .slice Ao12 t275.length co12, .int .i64 t278]] rfl (by (try simp only [List.map_toArray, List.map_cons, List.map_nil]); first | done | rfl | (simp only [List.length_drop, List.length_take]; rfl)) ?_; (with_reducible refine (verify_Code.calls _ _ t269 _ _ t272 _ _ t275 t278 t279 _ ?side1 ?side2 ?side3 ?side4 ?side5 ?side6 A17.out).mono ?_); (case side1 => repeat (first | exact (Kd.S_reads' HO_269000.out).2.2 | (with_reducible refine Kd.C_alloc ?_ _) | (with_reducible refine Kd.C_drewN ?_ _) | (with_reducible refine Kd.C_drew ?_))); (case side2 => exact (Kd.S_reads' HO_269000.out).2.1); (case side3 => repeat (first | exact (Kd.R_reads' HO_269001.out).2.2 | (with_reducible refine Kd.C_alloc ?_ _) | (with_reducible refine Kd.C_drewN ?_ _) | (with_reducible refine Kd.C_drew ?_))); (case side4 => exact (Kd.R_reads' HO_269001.out).2.1); (case side5 => repeat (first | exact (Kd.R_reads' HO_269002.out).2.2 | (with_reducible refine Kd.C_alloc ?_ _) | (with_reducible refine Kd.C_drewN ?_ _) | (with_reducible refine Kd.C_drew ?_))); (case side6 => exact (Kd.R_reads' HO_269002.out).2.1); rintro e w26 ⟨rfl, hb⟩; refine ⟨_, rfl, ?_⟩; have n0_ := Aside0.mk (Kd.S_below (by (with_reducible repeat (first | apply Kd.S_alloc | apply Kd.S_drewN | apply Kd.S_drew)); exact HO_269000.out) hb); have n1_ := Aside0.mk (Kd.R_below (by (with_reducible repeat (first | apply Kd.R_alloc | apply Kd.R_drewN | apply Kd.R_drew)); exact HO_269001.out) hb); have n2_ := Aside0.mk (Kd.R_below (by (with_reducible repeat (first | apply Kd.R_alloc | apply Kd.R_drewN | apply Kd.R_drew)); exact HO_269002.out) hb); have n3_ := Aside0.mk (blk_below (g := gb268) (o := .cells #[.slice Ao9 t269.length co9, .slice Ao11 t272.length co11, .slice Ao12 t275.length co12, .int .i64 t278] 26 (0, 0)) (by (with_reducible repeat (first | refine blk_drewN ?_ _ | refine blk_drew ?_ | refine blk_alloc ?_ _)); exact BK268.out) hb); have n4_ := Aside0.mk (below_step (by repeat (first | (with_reducible first | exact HB.out | apply below_alloc | apply pw_below_drewN | apply below_drew1 | refine below_set ?_ GE268.out) | exact HB.out)) hb); clear HO_269000; clear HO_269001; clear HO_269002; clear BK268; clear HB; have HO_269000 := n0_; have HO_269001 := n1_; have HO_269002 := n2_; have BK268 := n3_; have HB := n4_; clear n0_ n1_ n2_ n3_ n4_; (try clear hb); (try clear hb2); (try clear hk); (try clear hi); have hcz27_0 : w26.cell? ⟨gb268, 0, none⟩ = some (.slice Ao9 t269.length co9) := (blk_cell BK268.out 0).trans rfl; have hcz27_1 : w26.cell? ⟨gb268, 1, none⟩ = some (.slice Ao11 t272.length co11) := (blk_cell BK268.out 1).trans rfl; have hcz27_2 : w26.cell? ⟨gb268, 2, none⟩ = some (.slice Ao12 t275.length co12) := (blk_cell BK268.out 2).trans rfl; have hcz27_3 : w26.cell? ⟨gb268, 3, none⟩ = some (.int .i64 t278) := (blk_cell BK268.out 3).trans rfl; have hfz27_0 := blk_frozen BK268.out 0; have hfz27_1 := blk_frozen BK268.out 1; have hfz27_2 := blk_frozen BK268.out 2; have hfz27_3 := blk_frozen BK268.out 3))
     go_meet
     case rel => exact ⟨_, (decide (t278 > 50)), (by first | rfl | (simp; done) | (simp [*]; done)), H', ⟨by have := HJ4.out; first | omega | exact Nat.le_refl _⟩, ⟨by (with_reducible repeat (first | apply Kd.S_alloc | apply Kd.S_drewN | apply Kd.S_drew)); exact HO_269000.out⟩, ⟨by (with_reducible repeat (first | apply Kd.R_alloc | apply Kd.R_drewN | apply Kd.R_drew)); exact HO_269001.out⟩, ⟨by (with_reducible repeat (first | apply Kd.R_alloc | apply Kd.R_drewN | apply Kd.R_drew)); exact HO_269002.out⟩, ⟨by (with_reducible repeat (first | refine blk_drewN ?_ _ | refine blk_drew ?_ | refine blk_alloc ?_ _)); exact BK268.out⟩, ⟨by repeat (first | (with_reducible first | exact HB.out | apply below_alloc | apply pw_below_drewN | apply below_drew1 | refine below_set ?_ GE268.out) | exact HB.out)⟩⟩
    rw [if_neg c18] at H
    have c18b0 : (t279 == 0) = false := beq_eq_false_iff_ne.mpr c18
    have c18b1 : (t279 != 0) = true := bne_iff_ne.mpr c18
    (first | rw [c18b0] | (simp only [i64_w, i32_w]; rw [c18b0]) | skip)
    have H' := Aside0.mk H
    clear H
    have hcz28_0 : wc.cell? ⟨gb268, 0, none⟩ = some (.slice Ao9 t269.length co9) := (blk_cell BK268.out 0).trans rfl
    have hcz28_1 : wc.cell? ⟨gb268, 1, none⟩ = some (.slice Ao11 t272.length co11) := (blk_cell BK268.out 1).trans rfl
    have hcz28_2 : wc.cell? ⟨gb268, 2, none⟩ = some (.slice Ao12 t275.length co12) := (blk_cell BK268.out 2).trans rfl
    have hcz28_3 : wc.cell? ⟨gb268, 3, none⟩ = some (.int .i64 t278) := (blk_cell BK268.out 3).trans rfl
    have hfz28_0 := blk_frozen BK268.out 0
    have hfz28_1 := blk_frozen BK268.out 1
    have hfz28_2 := blk_frozen BK268.out 2
    have hfz28_3 := blk_frozen BK268.out 3
    go_wp2_with (first | ((with_reducible refine gate_callee (f := 12) rfl ?_); refine goesL_ (some 15) rfl rfl Try.func12 (by kernel_rfl) rfl #[.agg #[.slice Ao9 t269.length co9, .slice Ao11 t272.length co11, .slice Ao12 t275.length co12, .int .i64 t278]] rfl (by (try simp only [List.map_toArray, List.map_cons, List.map_nil]); first | done | rfl | (simp only [List.length_drop, List.length_take]; rfl)) ?_; (with_reducible refine (verify_Code.calls _ _ t269 _ _ t272 _ _ t275 t278 t279 _ ?side1 ?side2 ?side3 ?side4 ?side5 ?side6 A17.out).mono ?_); (case side1 => repeat (first | exact (Kd.S_reads' HO_269000.out).2.2 | (with_reducible refine Kd.C_alloc ?_ _) | (with_reducible refine Kd.C_drewN ?_ _) | (with_reducible refine Kd.C_drew ?_))); (case side2 => exact (Kd.S_reads' HO_269000.out).2.1); (case side3 => repeat (first | exact (Kd.R_reads' HO_269001.out).2.2 | (with_reducible refine Kd.C_alloc ?_ _) | (with_reducible refine Kd.C_drewN ?_ _) | (with_reducible refine Kd.C_drew ?_))); (case side4 => exact (Kd.R_reads' HO_269001.out).2.1); (case side5 => repeat (first | exact (Kd.R_reads' HO_269002.out).2.2 | (with_reducible refine Kd.C_alloc ?_ _) | (with_reducible refine Kd.C_drewN ?_ _) | (with_reducible refine Kd.C_drew ?_))); (case side6 => exact (Kd.R_reads' HO_269002.out).2.1); rintro e w29 ⟨rfl, hb⟩; refine ⟨_, rfl, ?_⟩; have n0_ := Aside0.mk (Kd.S_below (by (with_reducible repeat (first | apply Kd.S_alloc | apply Kd.S_drewN | apply Kd.S_drew)); exact HO_269000.out) hb); have n1_ := Aside0.mk (Kd.R_below (by (with_reducible repeat (first | apply Kd.R_alloc | apply Kd.R_drewN | apply Kd.R_drew)); exact HO_269001.out) hb); have n2_ := Aside0.mk (Kd.R_below (by (with_reducible repeat (first | apply Kd.R_alloc | apply Kd.R_drewN | apply Kd.R_drew)); exact HO_269002.out) hb); have n3_ := Aside0.mk (blk_below (g := gb268) (o := .cells #[.slice Ao9 t269.length co9, .slice Ao11 t272.length co11, .slice Ao12 t275.length co12, .int .i64 t278] 26 (0, 0)) (by (with_reducible repeat (first | refine blk_drewN ?_ _ | refine blk_drew ?_ | refine blk_alloc ?_ _)); exact BK268.out) hb); have n4_ := Aside0.mk (below_step (by repeat (first | (with_reducible first | exact HB.out | apply below_alloc | apply pw_below_drewN | apply below_drew1 | refine below_set ?_ GE268.out) | exact HB.out)) hb); clear HO_269000; clear HO_269001; clear HO_269002; clear BK268; clear HB; have HO_269000 := n0_; have HO_269001 := n1_; have HO_269002 := n2_; have BK268 := n3_; have HB := n4_; clear n0_ n1_ n2_ n3_ n4_; (try clear hb); (try clear hb2); (try clear hk); (try clear hi)))
    go_meet
    case rel => exact ⟨_, (true), (by first | rfl | (simp; done) | (simp [*]; done)), H', ⟨by have := HJ4.out; first | omega | exact Nat.le_refl _⟩, ⟨by (with_reducible repeat (first | apply Kd.S_alloc | apply Kd.S_drewN | apply Kd.S_drew)); exact HO_269000.out⟩, ⟨by (with_reducible repeat (first | apply Kd.R_alloc | apply Kd.R_drewN | apply Kd.R_drew)); exact HO_269001.out⟩, ⟨by (with_reducible repeat (first | apply Kd.R_alloc | apply Kd.R_drewN | apply Kd.R_drew)); exact HO_269002.out⟩, ⟨by (with_reducible repeat (first | refine blk_drewN ?_ _ | refine blk_drew ?_ | refine blk_alloc ?_ _)); exact BK268.out⟩, ⟨by repeat (first | (with_reducible first | exact HB.out | apply below_alloc | apply pw_below_drewN | apply below_drew1 | refine below_set ?_ GE268.out) | exact HB.out)⟩⟩
   case rest =>
    clear HC16
    try clear c1
    try clear c2
    try clear p2
    try clear c4
    try clear c8
    try clear c12
    try clear c13
    try clear c13b0
    try clear c13b1
    try clear c14
    try clear c14b0
    try clear c14b1
    try clear c15
    try clear c15b0
    try clear c15b1
    try clear c18
    try clear c18b0
    try clear c18b1
    try clear c19
    try clear c19b0
    try clear c22
    try clear c22b0
    try clear hcz10_0
    try clear hcz10_1
    try clear hcz10_2
    try clear hcz10_3
    try clear hcz20_0
    try clear hcz20_1
    try clear hcz20_2
    try clear hcz20_3
    try clear hcz23_0
    try clear hcz23_1
    try clear hcz23_2
    try clear hcz23_3
    try clear hcz25_0
    try clear hcz25_1
    try clear hcz25_2
    try clear hcz25_3
    try clear hcz27_0
    try clear hcz27_1
    try clear hcz27_2
    try clear hcz27_3
    try clear hcz28_0
    try clear hcz28_1
    try clear hcz28_2
    try clear hcz28_3
    try clear hcz7_0
    try clear hcz7_1
    try clear hcz7_2
    try clear hcz7_3
    try clear hfz10_0
    try clear hfz10_1
    try clear hfz10_2
    try clear hfz10_3
    try clear hfz20_0
    try clear hfz20_1
    try clear hfz20_2
    try clear hfz20_3
    try clear hfz23_0
    try clear hfz23_1
    try clear hfz23_2
    try clear hfz23_3
    try clear hfz25_0
    try clear hfz25_1
    try clear hfz25_2
    try clear hfz25_3
    try clear hfz27_0
    try clear hfz27_1
    try clear hfz27_2
    try clear hfz27_3
    try clear hfz28_0
    try clear hfz28_1
    try clear hfz28_2
    try clear hfz28_3
    try clear hfz7_0
    try clear hfz7_1
    try clear hfz7_2
    try clear hfz7_3
    try clear p2
    obtain ⟨kq, x29_15, rfl, HA, HJ15, HO_269000, HO_269001, HO_269002, BK268, HB⟩ := hcut
    cases kq with
    | zero => exact absurd HA.out (by simp [selvagelaw14_VerifyMore.j1])
    | succ kj15 =>
     have H := HA.out
     clear HA
     simp only [selvagelaw14_VerifyMore.j1] at H
     by_cases c30 : x29_15 = true
     ·subst c30
      have H1 : ((selvagelaw14_lives.f).bind fun t280 => (some t280)) = some r := by rw [if_pos rfl] at H; exact H
      clear H
      have H := H1
      clear H1
      replace H := Option.bind_eq_some_iff.mp H
      obtain ⟨t280, A310, H⟩ := H
      replace H : (some t280) = some r := H
      have A31 := Aside0.mk A310
      clear A310
      obtain rfl := Option.some.inj H
      go_wp2_with (first | ((with_reducible refine gate_callee (f := 10) rfl ?_); refine goesL_ (some 30) rfl rfl Try.func10 (by kernel_rfl) rfl #[] rfl (by (try simp only [List.map_toArray, List.map_cons, List.map_nil]); first | done | rfl | (simp only [List.length_drop, List.length_take]; rfl)) ?_; (with_reducible refine (selvagelaw14_lives.calls  t280 _ A31.out).mono ?_); rintro e w32 ⟨rfl, hb⟩; refine ⟨_, rfl, ?_⟩; have n0_ := Aside0.mk (Kd.S_below (by (with_reducible repeat (first | apply Kd.S_alloc | apply Kd.S_drewN | apply Kd.S_drew)); exact HO_269000.out) hb); have n1_ := Aside0.mk (Kd.R_below (by (with_reducible repeat (first | apply Kd.R_alloc | apply Kd.R_drewN | apply Kd.R_drew)); exact HO_269001.out) hb); have n2_ := Aside0.mk (Kd.R_below (by (with_reducible repeat (first | apply Kd.R_alloc | apply Kd.R_drewN | apply Kd.R_drew)); exact HO_269002.out) hb); have n3_ := Aside0.mk (blk_below (g := gb268) (o := .cells #[.slice Ao9 t269.length co9, .slice Ao11 t272.length co11, .slice Ao12 t275.length co12, .int .i64 t278] 26 (0, 0)) (by (with_reducible repeat (first | refine blk_drewN ?_ _ | refine blk_drew ?_ | refine blk_alloc ?_ _)); exact BK268.out) hb); have n4_ := Aside0.mk (below_step (by repeat (first | (with_reducible first | exact HB.out | apply below_alloc | apply pw_below_drewN | apply below_drew1 | refine below_set ?_ GE268.out) | exact HB.out)) hb); clear HO_269000; clear HO_269001; clear HO_269002; clear BK268; clear HB; have HO_269000 := n0_; have HO_269001 := n1_; have HO_269002 := n2_; have BK268 := n3_; have HB := n4_; clear n0_ n1_ n2_ n3_ n4_; (try clear hb); (try clear hb2); (try clear hk); (try clear hi)))
      go_ret
      exact ⟨by first | rfl | (simp [errW_none, errW_some] <;> rfl) | (simp [*, errW_none, errW_some] <;> rfl), by repeat (first | (with_reducible first | exact HB.out | apply below_alloc | apply pw_below_drewN | apply below_drew1 | refine below_set ?_ GE268.out) | exact HB.out)⟩
     replace c30 := Bool.eq_false_iff.mpr c30
     subst c30
     have H1 : (if t272.length < 17592186044416 then (if t275.length < 8796093022208 then (if t269.length < 2932031007402 then ((verify_Code.f (t269 ++ [(⟨0, 1, 1, (([(⟨3, 0, 0⟩ : S37), (⟨15, 0, 0⟩ : S37)] : List (S37)))⟩ : S32)]) (t272 ++ [a1]) (t275 ++ [x2_4]) (wrap64 (t278 + 1))).bind fun t293 => (if t293 = 0 then ((selvagelaw14_lives.f).bind fun t294 => (some t294)) else (some false))) else (none)) else (none)) else (none)) = some r := by rw [if_neg (show ¬ (false = true) by decide)] at H; exact H
     clear H
     have H := H1
     clear H1
     by_cases c33 : t272.length < 17592186044416
     ·rw [if_pos c33] at H
      have LMc33 := Aside0.mk c33
      clear c33
      obtain ⟨y281, hy281⟩ : ∃ y_ : List Int, y_ = (t272 ++ [a1]) := ⟨_, rfl⟩
      replace H : (if t275.length < 8796093022208 then (if t269.length < 2932031007402 then ((verify_Code.f (t269 ++ [(⟨0, 1, 1, (([(⟨3, 0, 0⟩ : S37), (⟨15, 0, 0⟩ : S37)] : List (S37)))⟩ : S32)]) y281 (t275 ++ [x2_4]) (wrap64 (t278 + 1))).bind fun t293 => (if t293 = 0 then ((selvagelaw14_lives.f).bind fun t294 => (some t294)) else (some false))) else (none)) else (none)) = some r := by first | (rw [hy281]; with_reducible exact H) | (have H2_ := (Option.bind_some _ _).symm.trans H; rw [hy281]; with_reducible exact H2_) | (have H2_ := (Option.bind_some _ _).symm.trans H; with_reducible exact H2_) | with_reducible exact H | (rw [hy281]; exact H) | exact H
      have Ny281 := Aside0.mk hy281
      clear hy281
      by_cases c34 : t275.length < 8796093022208
      ·rw [if_pos c34] at H
       have LMc34 := Aside0.mk c34
       clear c34
       obtain ⟨y284, hy284⟩ : ∃ y_ : List ByteArray, y_ = (t275 ++ [x2_4]) := ⟨_, rfl⟩
       replace H : (if t269.length < 2932031007402 then ((verify_Code.f (t269 ++ [(⟨0, 1, 1, (([(⟨3, 0, 0⟩ : S37), (⟨15, 0, 0⟩ : S37)] : List (S37)))⟩ : S32)]) y281 y284 (wrap64 (t278 + 1))).bind fun t293 => (if t293 = 0 then ((selvagelaw14_lives.f).bind fun t294 => (some t294)) else (some false))) else (none)) = some r := by first | (rw [hy284]; with_reducible exact H) | (have H2_ := (Option.bind_some _ _).symm.trans H; rw [hy284]; with_reducible exact H2_) | (have H2_ := (Option.bind_some _ _).symm.trans H; with_reducible exact H2_) | with_reducible exact H | (rw [hy284]; exact H) | exact H
       have Ny284 := Aside0.mk hy284
       clear hy284
       obtain ⟨y287, hy287⟩ : ∃ y_ : List (S37), y_ = (([(⟨3, 0, 0⟩ : S37), (⟨15, 0, 0⟩ : S37)] : List (S37))) := ⟨_, rfl⟩
       replace H : (if t269.length < 2932031007402 then ((verify_Code.f (t269 ++ [(⟨0, 1, 1, y287⟩ : S32)]) y281 y284 (wrap64 (t278 + 1))).bind fun t293 => (if t293 = 0 then ((selvagelaw14_lives.f).bind fun t294 => (some t294)) else (some false))) else (none)) = some r := by first | (rw [hy287]; with_reducible exact H) | (have H2_ := (Option.bind_some _ _).symm.trans H; rw [hy287]; with_reducible exact H2_) | (have H2_ := (Option.bind_some _ _).symm.trans H; with_reducible exact H2_) | with_reducible exact H | (rw [hy287]; exact H) | exact H
       have Ny287 := Aside0.mk hy287
       clear hy287
       by_cases c35 : t269.length < 2932031007402
       ·rw [if_pos c35] at H
        have LMc35 := Aside0.mk c35
        clear c35
        obtain ⟨y290, hy290⟩ : ∃ y_ : List (S32), y_ = (t269 ++ [(⟨0, 1, 1, y287⟩ : S32)]) := ⟨_, rfl⟩
        replace H : ((verify_Code.f y290 y281 y284 (wrap64 (t278 + 1))).bind fun t293 => (if t293 = 0 then ((selvagelaw14_lives.f).bind fun t294 => (some t294)) else (some false))) = some r := by first | (rw [hy290]; with_reducible exact H) | (have H2_ := (Option.bind_some _ _).symm.trans H; rw [hy290]; with_reducible exact H2_) | (have H2_ := (Option.bind_some _ _).symm.trans H; with_reducible exact H2_) | with_reducible exact H | (rw [hy290]; exact H) | exact H
        have Ny290 := Aside0.mk hy290
        clear hy290
        replace H := Option.bind_eq_some_iff.mp H
        obtain ⟨t293, A360, H⟩ := H
        replace H : (if t293 = 0 then ((selvagelaw14_lives.f).bind fun t294 => (some t294)) else (some false)) = some r := H
        have A36 := Aside0.mk A360
        clear A360
        by_cases c37 : t293 = 0
        ·rw [if_pos c37] at H
         have c37b0 : (t293 == 0) = true := beq_iff_eq.mpr c37
         have c37b1 : (t293 != 0) = false := bne_eq_false_iff_eq.mpr c37
         clear c37
         replace H := Option.bind_eq_some_iff.mp H
         obtain ⟨t294, A380, H⟩ := H
         replace H : (some t294) = some r := H
         have A38 := Aside0.mk A380
         clear A380
         obtain rfl := Option.some.inj H
         have hcz39_0 : wc.cell? ⟨gb268, 0, none⟩ = some (.slice Ao9 t269.length co9) := (blk_cell BK268.out 0).trans rfl
         have hcz39_1 : wc.cell? ⟨gb268, 1, none⟩ = some (.slice Ao11 t272.length co11) := (blk_cell BK268.out 1).trans rfl
         have hcz39_2 : wc.cell? ⟨gb268, 2, none⟩ = some (.slice Ao12 t275.length co12) := (blk_cell BK268.out 2).trans rfl
         have hcz39_3 : wc.cell? ⟨gb268, 3, none⟩ = some (.int .i64 t278) := (blk_cell BK268.out 3).trans rfl
         have hfz39_0 := blk_frozen BK268.out 0
         have hfz39_1 := blk_frozen BK268.out 1
         have hfz39_2 := blk_frozen BK268.out 2
         have hfz39_3 := blk_frozen BK268.out 3
         go_wp2_with (first | ((with_reducible refine gate_builtin (b := .append) (xs := #[.tmp 32, .tmp 34]) rfl ?_); at_builtin; refine Kd.R_append (Kd.int .i64) (w0 := w) w.heap.size rfl (.tmp 32) (.tmp 34) 23 3 (.int .i64 0) 8 rfl Try.underlying23 info3 rfl (by decide) (by omega) (.slice Ao11 t272.length co11) t272 a1 [.int .i64 a1] (fun _ => True) (fun _ => False) rfl rfl ?aP (fun _ hk => hk.elim) ?aF ?aO ?aB ?aS ?aL ?_; (case aP => exact rfl); (case aB => exact (by repeat (first | (with_reducible first | exact HB.out | apply below_alloc | apply pw_below_drewN | apply below_drew1 | refine below_set ?_ GE268.out) | exact HB.out))); (case aF => exact (fun _ _ => trivial)); (case aO => exact (by (with_reducible repeat (first | apply Kd.R_alloc | apply Kd.R_drewN | apply Kd.R_drew)); exact HO_269001.out)); (case aS => exact (below_size (by repeat (first | (with_reducible first | exact HB.out | apply below_alloc | apply pw_below_drewN | apply below_drew1 | refine below_set ?_ GE268.out) | exact HB.out)))); (case aL => have := LMc33.out; omega); intro v282 w40 ho hb hg hat; rw [← Ny281.out] at ho; have n0_ := Aside0.mk (Kd.S_over' (by (with_reducible repeat (first | apply Kd.S_alloc | apply Kd.S_drewN | apply Kd.S_drew)); exact HO_269000.out) (Kd.R_typed (by (with_reducible repeat (first | apply Kd.R_alloc | apply Kd.R_drewN | apply Kd.R_drew)); exact HO_269001.out)) (by decide) hg); have n1_ := Aside0.mk (Kd.R_over' (by (with_reducible repeat (first | apply Kd.R_alloc | apply Kd.R_drewN | apply Kd.R_drew)); exact HO_269002.out) (Kd.R_typed (by (with_reducible repeat (first | apply Kd.R_alloc | apply Kd.R_drewN | apply Kd.R_drew)); exact HO_269001.out)) (by decide) hg); have n2_ := Aside0.mk (blk_grown (g := gb268) (o := .cells #[.slice Ao9 t269.length co9, .slice Ao11 t272.length co11, .slice Ao12 t275.length co12, .int .i64 t278] 26 (0, 0)) (by (with_reducible repeat (first | refine blk_drewN ?_ _ | refine blk_drew ?_ | refine blk_alloc ?_ _)); exact BK268.out) hg (Kd.R_ne HO_269001.out BK268.out (by decide))); have n3_ := Aside0.mk (hb); have n4_ := Aside0.mk (ho); clear HO_269000; clear HO_269002; clear BK268; clear HB; clear HO_269001; have HO_269000 := n0_; have HO_269002 := n1_; have BK268 := n2_; have HB := n3_; have HO283 := n4_; clear n0_ n1_ n2_ n3_ n4_; clear ho hb hg hat; obtain ⟨Ao41, co41, eo41⟩ := Kd.R_slice HO283.out; subst eo41; have hcz42_0 : w40.cell? ⟨gb268, 0, none⟩ = some (.slice Ao9 t269.length co9) := (blk_cell BK268.out 0).trans rfl; have hcz42_1 : w40.cell? ⟨gb268, 1, none⟩ = some (.slice Ao11 t272.length co11) := (blk_cell BK268.out 1).trans rfl; have hcz42_2 : w40.cell? ⟨gb268, 2, none⟩ = some (.slice Ao12 t275.length co12) := (blk_cell BK268.out 2).trans rfl; have hcz42_3 : w40.cell? ⟨gb268, 3, none⟩ = some (.int .i64 t278) := (blk_cell BK268.out 3).trans rfl; have hfz42_0 := blk_frozen BK268.out 0; have hfz42_1 := blk_frozen BK268.out 1; have hfz42_2 := blk_frozen BK268.out 2; have hfz42_3 := blk_frozen BK268.out 3) | ((with_reducible refine gate_builtin (b := .append) (xs := #[.tmp 38, .tmp 40]) rfl ?_); at_builtin; refine Kd.R_append Kd.string (w0 := w) w.heap.size rfl (.tmp 38) (.tmp 40) 24 9 (.string ⟨#[]⟩) 16 rfl Try.underlying24 info9 rfl (by decide) (by omega) (.slice Ao12 t275.length co12) t275 x2_4 [.string x2_4] (fun _ => True) (fun _ => False) rfl (by first | (go_simp; done) | (go_simp; rfl)) ?aP (fun _ hk => hk.elim) ?aF ?aO ?aB ?aS ?aL ?_; (case aP => exact rfl); (case aB => exact (by repeat (first | (with_reducible first | exact HB.out | apply below_alloc | apply pw_below_drewN | apply below_drew1 | refine below_set ?_ GE268.out) | exact HB.out))); (case aF => exact (fun _ _ => trivial)); (case aO => exact (by (with_reducible repeat (first | apply Kd.R_alloc | apply Kd.R_drewN | apply Kd.R_drew)); exact Kd.R_mono (Kd.R_far (p := ⟨gb268, 1, none⟩) (Kd.R_types HO_269002.out BK268.out (by decide)) (fun _ hk => hk.2) (.slice Ao41 y281.length co41)) (fun _ hk => trivial))); (case aS => exact (below_size (by repeat (first | (with_reducible first | exact HB.out | apply below_alloc | apply pw_below_drewN | apply below_drew1 | refine below_set ?_ GE268.out) | exact HB.out)))); (case aL => have := LMc34.out; omega); intro v285 w43 ho hb hg hat; rw [← Ny284.out] at ho; have n0_ := Aside0.mk (Kd.S_over' (by (with_reducible repeat (first | apply Kd.S_alloc | apply Kd.S_drewN | apply Kd.S_drew)); exact (Kd.S_mono (Kd.S_far (p := ⟨gb268, 1, none⟩) (Kd.S_types HO_269000.out BK268.out (by decide)) (fun _ hk => hk.2) (.slice Ao41 y281.length co41)) (fun _ h_ => h_.1))) (Kd.R_typed (by (with_reducible repeat (first | apply Kd.R_alloc | apply Kd.R_drewN | apply Kd.R_drew)); exact (Kd.R_mono (Kd.R_far (p := ⟨gb268, 1, none⟩) (Kd.R_types HO_269002.out BK268.out (by decide)) (fun _ hk => hk.2) (.slice Ao41 y281.length co41)) (fun _ h_ => h_.1)))) (by decide) hg); have n1_ := Aside0.mk (blk_grown (g := gb268) (o := .cells #[.slice Ao9 t269.length co9, .slice Ao41 y281.length co41, .slice Ao12 t275.length co12, .int .i64 t278] 26 (0, 0)) (by (with_reducible repeat (first | refine blk_drewN ?_ _ | refine blk_drew ?_ | refine blk_alloc ?_ _)); refine blk_put (cs := #[.slice Ao9 t269.length co9, .slice Ao11 t272.length co11, .slice Ao12 t275.length co12, .int .i64 t278]) ?_ 1 _ rfl; (with_reducible repeat (first | refine blk_drewN ?_ _ | refine blk_drew ?_ | refine blk_alloc ?_ _)); exact BK268.out) hg (Kd.R_ne HO_269002.out BK268.out (by decide))); have n2_ := Aside0.mk (Kd.R_over' (by (with_reducible repeat (first | apply Kd.R_alloc | apply Kd.R_drewN | apply Kd.R_drew)); exact (Kd.R_mono (Kd.R_far (p := ⟨gb268, 1, none⟩) (Kd.R_types HO283.out BK268.out (by decide)) (fun _ hk => hk.2) (.slice Ao41 y281.length co41)) (fun _ h_ => h_.1))) (Kd.R_typed (by (with_reducible repeat (first | apply Kd.R_alloc | apply Kd.R_drewN | apply Kd.R_drew)); exact (Kd.R_mono (Kd.R_far (p := ⟨gb268, 1, none⟩) (Kd.R_types HO_269002.out BK268.out (by decide)) (fun _ hk => hk.2) (.slice Ao41 y281.length co41)) (fun _ h_ => h_.1)))) (by decide) hg); have n3_ := Aside0.mk (hb); have n4_ := Aside0.mk (ho); clear HO_269000; clear BK268; clear HO283; clear HB; clear HO_269002; have HO_269000 := n0_; have BK268 := n1_; have HO283 := n2_; have HB := n3_; have HO286 := n4_; clear n0_ n1_ n2_ n3_ n4_; clear ho hb hg hat; obtain ⟨Ao44, co44, eo44⟩ := Kd.R_slice HO286.out; subst eo44; have hcz45_0 : w43.cell? ⟨gb268, 0, none⟩ = some (.slice Ao9 t269.length co9) := (blk_cell BK268.out 0).trans rfl; have hcz45_1 : w43.cell? ⟨gb268, 1, none⟩ = some (.slice Ao41 y281.length co41) := (blk_cell BK268.out 1).trans rfl; have hcz45_2 : w43.cell? ⟨gb268, 2, none⟩ = some (.slice Ao12 t275.length co12) := (blk_cell BK268.out 2).trans rfl; have hcz45_3 : w43.cell? ⟨gb268, 3, none⟩ = some (.int .i64 t278) := (blk_cell BK268.out 3).trans rfl; have hfz45_0 := blk_frozen BK268.out 0; have hfz45_1 := blk_frozen BK268.out 1; have hfz45_2 := blk_frozen BK268.out 2; have hfz45_3 := blk_frozen BK268.out 3) | ((with_reducible refine gate_dst (N := 51) rfl ?_); refine Kd.R_lit k37 _ 37 ?hg (N := 51) ?hd (xs := ([(⟨3, 0, 0⟩ : S37), (⟨15, 0, 0⟩ : S37)] : List (S37))) (inner := [.int .i64 3, .int .i64 0, .int .i64 0, .int .i64 15, .int .i64 0, .int .i64 0]) (ok := fun _ => True) (okp := fun _ => True) ?hr ?hp (fun _ hk => hk) trivial (Below.refl _ _) (Nat.le_refl _) (by simp) ?_; (case hd => rfl); (case hg => rfl); (case hr => first | (go_simp; done) | (go_simp; rfl)); (case hp => exact (Reps.c3 (show Kd.M k37 _ _ _ (⟨3, 0, 0⟩ : S37) [.int .i64 3, .int .i64 0, .int .i64 0] from (k37_mkM _ _ _ (⟨3, 0, 0⟩ : S37) )) (Reps.c3 (show Kd.M k37 _ _ _ (⟨15, 0, 0⟩ : S37) [.int .i64 15, .int .i64 0, .int .i64 0] from (k37_mkM _ _ _ (⟨15, 0, 0⟩ : S37) )) (Reps.none _ _)))); intro v288 w46 ho47 hb hg_ hnew_; clear hg_ hnew_; (first | rw [← Ny287.out] at ho47 | (simp only [Int.reduceToNat] at ho47; rw [← Ny287.out] at ho47)); have n0_ := Aside0.mk (Kd.S_elder' (by (with_reducible repeat (first | apply Kd.S_alloc | apply Kd.S_drewN | apply Kd.S_drew)); exact (Kd.S_mono (Kd.S_far (p := ⟨gb268, 3, none⟩) (Kd.S_far (p := ⟨gb268, 2, none⟩) (Kd.S_types HO_269000.out BK268.out (by decide)) (fun _ hk => hk.2) (.slice Ao44 y284.length co44)) (fun _ hk => hk.2) (.int .i64 (wrap64 (t278 + 1)))) (fun _ h_ => h_.1))) (Kd.R_base ho47) hb); have n1_ := Aside0.mk (Kd.R_below (by (with_reducible repeat (first | apply Kd.R_alloc | apply Kd.R_drewN | apply Kd.R_drew)); exact (Kd.R_mono (Kd.R_far (p := ⟨gb268, 3, none⟩) (Kd.R_far (p := ⟨gb268, 2, none⟩) (Kd.R_types HO283.out BK268.out (by decide)) (fun _ hk => hk.2) (.slice Ao44 y284.length co44)) (fun _ hk => hk.2) (.int .i64 (wrap64 (t278 + 1)))) (fun _ h_ => h_.1))) hb); have n2_ := Aside0.mk (Kd.R_below (by (with_reducible repeat (first | apply Kd.R_alloc | apply Kd.R_drewN | apply Kd.R_drew)); exact (Kd.R_mono (Kd.R_far (p := ⟨gb268, 3, none⟩) (Kd.R_far (p := ⟨gb268, 2, none⟩) (Kd.R_types HO286.out BK268.out (by decide)) (fun _ hk => hk.2) (.slice Ao44 y284.length co44)) (fun _ hk => hk.2) (.int .i64 (wrap64 (t278 + 1)))) (fun _ h_ => h_.1))) hb); have n3_ := Aside0.mk (Kd.R_lower ho47 (below_size (by repeat (first | (with_reducible first | exact HB.out | apply below_alloc | apply pw_below_drewN | apply below_drew1 | refine below_set ?_ GE268.out) | exact HB.out)))); have n4_ := Aside0.mk (blk_below (g := gb268) (o := .cells #[.slice Ao9 t269.length co9, .slice Ao41 y281.length co41, .slice Ao44 y284.length co44, .int .i64 (wrap64 (t278 + 1))] 26 (0, 0)) (by (with_reducible repeat (first | refine blk_drewN ?_ _ | refine blk_drew ?_ | refine blk_alloc ?_ _)); refine blk_put (cs := #[.slice Ao9 t269.length co9, .slice Ao41 y281.length co41, .slice Ao44 y284.length co44, .int .i64 t278]) ?_ 3 _ rfl; (with_reducible repeat (first | refine blk_drewN ?_ _ | refine blk_drew ?_ | refine blk_alloc ?_ _)); refine blk_put (cs := #[.slice Ao9 t269.length co9, .slice Ao41 y281.length co41, .slice Ao12 t275.length co12, .int .i64 t278]) ?_ 2 _ rfl; (with_reducible repeat (first | refine blk_drewN ?_ _ | refine blk_drew ?_ | refine blk_alloc ?_ _)); exact BK268.out) hb); have n5_ := Aside0.mk (below_step (by repeat (first | (with_reducible first | exact HB.out | apply below_alloc | apply pw_below_drewN | apply below_drew1 | refine below_set ?_ GE268.out) | exact HB.out)) hb); clear HO_269000; clear HO283; clear HO286; clear BK268; clear HB; have HO_269000 := n0_; have HO283 := n1_; have HO286 := n2_; have HO289 := n3_; have BK268 := n4_; have HB := n5_; clear n0_ n1_ n2_ n3_ n4_ n5_; clear hb ho47; obtain ⟨Ao48, co48, eo48⟩ := Kd.R_slice HO289.out; subst eo48) | ((with_reducible refine gate_builtin (b := .append) (xs := #[.tmp 48, .tmp 53]) rfl ?_); at_builtin; refine Kd.S_append k32 (w0 := w) w.heap.size rfl (.tmp 48) (.tmp 53) 22 32 (.agg #[(.int .i64 0), (.int .i64 0), (.int .i64 0), (.slice none 0 0)]) 48 rfl Try.underlying22 info32 rfl (by decide) (by omega) (.slice Ao9 t269.length co9) t269 (⟨0, 1, 1, y287⟩ : S32) [.int .i64 0, .int .i64 1, .int .i64 1, .slice Ao48 y287.length co48] (fun _ => True) (fun k_ => some k_ = (.slice Ao48 y287.length co48 : Value).ownBlock) rfl rfl ?aP (fun k_ hk_ => ((Kd.R_mono (ok' := fun k_ => ((fun _ => True)) k_ ∧ some k_ ≠ (.slice Ao9 t269.length co9 : Value).ownBlock) (Kd.R_apart' (HO289.out) (Kd.S_typed HO_269000.out) (by decide)) (fun k_ hk => ⟨trivial, hk.2⟩))).1 k_ hk_.symm) ?aF ?aO ?aB ?aS ?aL ?_; (case aP => exact k32_mkM _ _ _ (⟨0, 1, 1, y287⟩ : S32) (Kd.R_mono (Kd.R_tight rfl (Kd.R_mono (ok' := fun k_ => ((fun _ => True)) k_ ∧ some k_ ≠ (.slice Ao9 t269.length co9 : Value).ownBlock) (Kd.R_apart' (HO289.out) (Kd.S_typed HO_269000.out) (by decide)) (fun k_ hk => ⟨trivial, hk.2⟩))) (fun _ h_ => h_))); (case aB => exact (by repeat (first | (with_reducible first | exact HB.out | apply below_alloc | apply pw_below_drewN | apply below_drew1 | refine below_set ?_ GE268.out) | exact HB.out))); (case aF => exact (fun _ _ => trivial)); (case aO => exact (by (with_reducible repeat (first | apply Kd.S_alloc | apply Kd.S_drewN | apply Kd.S_drew)); exact Kd.S_mono HO_269000.out (fun k_ hk => ⟨trivial, fun e_ => hk.2 e_⟩))); (case aS => exact (below_size (by repeat (first | (with_reducible first | exact HB.out | apply below_alloc | apply pw_below_drewN | apply below_drew1 | refine below_set ?_ GE268.out) | exact HB.out)))); (case aL => have := LMc35.out; omega); intro v291 w49 ho hb hg hat; rw [← Ny290.out] at ho; have n0_ := Aside0.mk (blk_grown (g := gb268) (o := .cells #[.slice Ao9 t269.length co9, .slice Ao41 y281.length co41, .slice Ao44 y284.length co44, .int .i64 (wrap64 (t278 + 1))] 26 (0, 0)) (by (with_reducible repeat (first | refine blk_drewN ?_ _ | refine blk_drew ?_ | refine blk_alloc ?_ _)); exact BK268.out) hg (Kd.S_ne HO_269000.out BK268.out (by decide))); have n1_ := Aside0.mk (Kd.R_over' (by (with_reducible repeat (first | apply Kd.R_alloc | apply Kd.R_drewN | apply Kd.R_drew)); exact HO283.out) (Kd.S_typed (by (with_reducible repeat (first | apply Kd.S_alloc | apply Kd.S_drewN | apply Kd.S_drew)); exact HO_269000.out)) (by decide) hg); have n2_ := Aside0.mk (Kd.R_over' (by (with_reducible repeat (first | apply Kd.R_alloc | apply Kd.R_drewN | apply Kd.R_drew)); exact HO286.out) (Kd.S_typed (by (with_reducible repeat (first | apply Kd.S_alloc | apply Kd.S_drewN | apply Kd.S_drew)); exact HO_269000.out)) (by decide) hg); have n3_ := Aside0.mk (hb); have n4_ := Aside0.mk (ho); clear BK268; clear HO283; clear HO286; clear HB; clear HO_269000; clear HO289; have BK268 := n0_; have HO283 := n1_; have HO286 := n2_; have HB := n3_; have HO292 := n4_; clear n0_ n1_ n2_ n3_ n4_; clear ho hb hg hat; obtain ⟨Ao50, co50, eo50⟩ := Kd.S_slice HO292.out; subst eo50; have hcz51_0 : w49.cell? ⟨gb268, 0, none⟩ = some (.slice Ao9 t269.length co9) := (blk_cell BK268.out 0).trans rfl; have hcz51_1 : w49.cell? ⟨gb268, 1, none⟩ = some (.slice Ao41 y281.length co41) := (blk_cell BK268.out 1).trans rfl; have hcz51_2 : w49.cell? ⟨gb268, 2, none⟩ = some (.slice Ao44 y284.length co44) := (blk_cell BK268.out 2).trans rfl; have hcz51_3 : w49.cell? ⟨gb268, 3, none⟩ = some (.int .i64 (wrap64 (t278 + 1))) := (blk_cell BK268.out 3).trans rfl; have hfz51_0 := blk_frozen BK268.out 0; have hfz51_1 := blk_frozen BK268.out 1; have hfz51_2 := blk_frozen BK268.out 2; have hfz51_3 := blk_frozen BK268.out 3) | ((with_reducible refine gate_callee (f := 12) rfl ?_); refine goesL_ (some 57) rfl rfl Try.func12 (by kernel_rfl) rfl #[.agg #[.slice Ao50 y290.length co50, .slice Ao41 y281.length co41, .slice Ao44 y284.length co44, .int .i64 (wrap64 (t278 + 1))]] rfl (by (try simp only [List.map_toArray, List.map_cons, List.map_nil]); first | done | rfl | (simp only [List.length_drop, List.length_take]; rfl)) ?_; (with_reducible refine (verify_Code.calls _ _ y290 _ _ y281 _ _ y284 (wrap64 (t278 + 1)) t293 _ ?side1 ?side2 ?side3 ?side4 ?side5 ?side6 A36.out).mono ?_); (case side1 => refine (Kd.S_reads' (e := 32) (base := w.heap.size) (ok := fun k_ => True) (n := y290.length) (c := co50) ?_).2.2; exact (by (with_reducible repeat (first | apply Kd.S_alloc | apply Kd.S_drewN | apply Kd.S_drew)); exact (Kd.S_mono (Kd.S_far (p := ⟨gb268, 0, none⟩) (Kd.S_types HO292.out BK268.out (by decide)) (fun _ hk => hk.2) (.slice Ao50 y290.length co50)) (fun _ h_ => h_.1)))); (case side2 => exact (Kd.S_reads' HO292.out).2.1); (case side3 => refine (Kd.R_reads' (e := 3) (base := w.heap.size) (ok := fun k_ => True) (n := y281.length) (c := co41) ?_).2.2; exact (by (with_reducible repeat (first | apply Kd.R_alloc | apply Kd.R_drewN | apply Kd.R_drew)); exact (Kd.R_mono (Kd.R_far (p := ⟨gb268, 0, none⟩) (Kd.R_types HO283.out BK268.out (by decide)) (fun _ hk => hk.2) (.slice Ao50 y290.length co50)) (fun _ h_ => h_.1)))); (case side4 => exact (Kd.R_reads' HO283.out).2.1); (case side5 => refine (Kd.R_reads' (e := 9) (base := w.heap.size) (ok := fun k_ => True) (n := y284.length) (c := co44) ?_).2.2; exact (by (with_reducible repeat (first | apply Kd.R_alloc | apply Kd.R_drewN | apply Kd.R_drew)); exact (Kd.R_mono (Kd.R_far (p := ⟨gb268, 0, none⟩) (Kd.R_types HO286.out BK268.out (by decide)) (fun _ hk => hk.2) (.slice Ao50 y290.length co50)) (fun _ h_ => h_.1)))); (case side6 => exact (Kd.R_reads' HO286.out).2.1); rintro e w52 ⟨rfl, hb⟩; refine ⟨_, rfl, ?_⟩; have n0_ := Aside0.mk (Kd.R_below (by (with_reducible repeat (first | apply Kd.R_alloc | apply Kd.R_drewN | apply Kd.R_drew)); exact (Kd.R_mono (Kd.R_far (p := ⟨gb268, 0, none⟩) (Kd.R_types HO283.out BK268.out (by decide)) (fun _ hk => hk.2) (.slice Ao50 y290.length co50)) (fun _ h_ => h_.1))) hb); have n1_ := Aside0.mk (Kd.R_below (by (with_reducible repeat (first | apply Kd.R_alloc | apply Kd.R_drewN | apply Kd.R_drew)); exact (Kd.R_mono (Kd.R_far (p := ⟨gb268, 0, none⟩) (Kd.R_types HO286.out BK268.out (by decide)) (fun _ hk => hk.2) (.slice Ao50 y290.length co50)) (fun _ h_ => h_.1))) hb); have n2_ := Aside0.mk (Kd.S_below (by (with_reducible repeat (first | apply Kd.S_alloc | apply Kd.S_drewN | apply Kd.S_drew)); exact (Kd.S_mono (Kd.S_far (p := ⟨gb268, 0, none⟩) (Kd.S_types HO292.out BK268.out (by decide)) (fun _ hk => hk.2) (.slice Ao50 y290.length co50)) (fun _ h_ => h_.1))) hb); have n3_ := Aside0.mk (blk_below (g := gb268) (o := .cells #[.slice Ao50 y290.length co50, .slice Ao41 y281.length co41, .slice Ao44 y284.length co44, .int .i64 (wrap64 (t278 + 1))] 26 (0, 0)) (by (with_reducible repeat (first | refine blk_drewN ?_ _ | refine blk_drew ?_ | refine blk_alloc ?_ _)); refine blk_put (cs := #[.slice Ao9 t269.length co9, .slice Ao41 y281.length co41, .slice Ao44 y284.length co44, .int .i64 (wrap64 (t278 + 1))]) ?_ 0 _ rfl; (with_reducible repeat (first | refine blk_drewN ?_ _ | refine blk_drew ?_ | refine blk_alloc ?_ _)); exact BK268.out) hb); have n4_ := Aside0.mk (below_step (by repeat (first | (with_reducible first | exact HB.out | apply below_alloc | apply pw_below_drewN | apply below_drew1 | refine below_set ?_ GE268.out) | exact HB.out)) hb); clear HO283; clear HO286; clear HO292; clear BK268; clear HB; have HO283 := n0_; have HO286 := n1_; have HO292 := n2_; have BK268 := n3_; have HB := n4_; clear n0_ n1_ n2_ n3_ n4_; (try clear hb); (try clear hb2); (try clear hk); (try clear hi)) | (go_at_call 10; (with_reducible refine (selvagelaw14_lives.calls  t294 _ A38.out).mono ?_); rintro e w53 ⟨rfl, hb⟩; have n0_ := Aside0.mk (Kd.R_below (by (with_reducible repeat (first | apply Kd.R_alloc | apply Kd.R_drewN | apply Kd.R_drew)); exact HO283.out) hb); have n1_ := Aside0.mk (Kd.R_below (by (with_reducible repeat (first | apply Kd.R_alloc | apply Kd.R_drewN | apply Kd.R_drew)); exact HO286.out) hb); have n2_ := Aside0.mk (Kd.S_below (by (with_reducible repeat (first | apply Kd.S_alloc | apply Kd.S_drewN | apply Kd.S_drew)); exact HO292.out) hb); have n3_ := Aside0.mk (blk_below (g := gb268) (o := .cells #[.slice Ao50 y290.length co50, .slice Ao41 y281.length co41, .slice Ao44 y284.length co44, .int .i64 (wrap64 (t278 + 1))] 26 (0, 0)) (by (with_reducible repeat (first | refine blk_drewN ?_ _ | refine blk_drew ?_ | refine blk_alloc ?_ _)); exact BK268.out) hb); have n4_ := Aside0.mk (below_step (by repeat (first | (with_reducible first | exact HB.out | apply below_alloc | apply pw_below_drewN | apply below_drew1 | refine below_set ?_ GE268.out) | exact HB.out)) hb); clear HO283; clear HO286; clear HO292; clear BK268; clear HB; have HO283 := n0_; have HO286 := n1_; have HO292 := n2_; have BK268 := n3_; have HB := n4_; clear n0_ n1_ n2_ n3_ n4_; (try clear hb); (try clear hb2); (try clear hk); (try clear hi)))
         go_ret
         exact ⟨by first | rfl | (simp [errW_none, errW_some] <;> rfl) | (simp [*, errW_none, errW_some] <;> rfl), by repeat (first | (with_reducible first | exact HB.out | apply below_alloc | apply pw_below_drewN | apply below_drew1 | refine below_set ?_ GE268.out) | exact HB.out)⟩
        rw [if_neg c37] at H
        have c37b0 : (t293 == 0) = false := beq_eq_false_iff_ne.mpr c37
        have c37b1 : (t293 != 0) = true := bne_iff_ne.mpr c37
        obtain rfl := Option.some.inj H
        have hcz54_0 : wc.cell? ⟨gb268, 0, none⟩ = some (.slice Ao9 t269.length co9) := (blk_cell BK268.out 0).trans rfl
        have hcz54_1 : wc.cell? ⟨gb268, 1, none⟩ = some (.slice Ao11 t272.length co11) := (blk_cell BK268.out 1).trans rfl
        have hcz54_2 : wc.cell? ⟨gb268, 2, none⟩ = some (.slice Ao12 t275.length co12) := (blk_cell BK268.out 2).trans rfl
        have hcz54_3 : wc.cell? ⟨gb268, 3, none⟩ = some (.int .i64 t278) := (blk_cell BK268.out 3).trans rfl
        have hfz54_0 := blk_frozen BK268.out 0
        have hfz54_1 := blk_frozen BK268.out 1
        have hfz54_2 := blk_frozen BK268.out 2
        have hfz54_3 := blk_frozen BK268.out 3
        go_wp2_with (first | ((with_reducible refine gate_builtin (b := .append) (xs := #[.tmp 32, .tmp 34]) rfl ?_); at_builtin; refine Kd.R_append (Kd.int .i64) (w0 := w) w.heap.size rfl (.tmp 32) (.tmp 34) 23 3 (.int .i64 0) 8 rfl Try.underlying23 info3 rfl (by decide) (by omega) (.slice Ao11 t272.length co11) t272 a1 [.int .i64 a1] (fun _ => True) (fun _ => False) rfl rfl ?aP (fun _ hk => hk.elim) ?aF ?aO ?aB ?aS ?aL ?_; (case aP => exact rfl); (case aB => exact (by repeat (first | (with_reducible first | exact HB.out | apply below_alloc | apply pw_below_drewN | apply below_drew1 | refine below_set ?_ GE268.out) | exact HB.out))); (case aF => exact (fun _ _ => trivial)); (case aO => exact (by (with_reducible repeat (first | apply Kd.R_alloc | apply Kd.R_drewN | apply Kd.R_drew)); exact HO_269001.out)); (case aS => exact (below_size (by repeat (first | (with_reducible first | exact HB.out | apply below_alloc | apply pw_below_drewN | apply below_drew1 | refine below_set ?_ GE268.out) | exact HB.out)))); (case aL => have := LMc33.out; omega); intro v282 w55 ho hb hg hat; rw [← Ny281.out] at ho; have n0_ := Aside0.mk (Kd.S_over' (by (with_reducible repeat (first | apply Kd.S_alloc | apply Kd.S_drewN | apply Kd.S_drew)); exact HO_269000.out) (Kd.R_typed (by (with_reducible repeat (first | apply Kd.R_alloc | apply Kd.R_drewN | apply Kd.R_drew)); exact HO_269001.out)) (by decide) hg); have n1_ := Aside0.mk (Kd.R_over' (by (with_reducible repeat (first | apply Kd.R_alloc | apply Kd.R_drewN | apply Kd.R_drew)); exact HO_269002.out) (Kd.R_typed (by (with_reducible repeat (first | apply Kd.R_alloc | apply Kd.R_drewN | apply Kd.R_drew)); exact HO_269001.out)) (by decide) hg); have n2_ := Aside0.mk (blk_grown (g := gb268) (o := .cells #[.slice Ao9 t269.length co9, .slice Ao11 t272.length co11, .slice Ao12 t275.length co12, .int .i64 t278] 26 (0, 0)) (by (with_reducible repeat (first | refine blk_drewN ?_ _ | refine blk_drew ?_ | refine blk_alloc ?_ _)); exact BK268.out) hg (Kd.R_ne HO_269001.out BK268.out (by decide))); have n3_ := Aside0.mk (hb); have n4_ := Aside0.mk (ho); clear HO_269000; clear HO_269002; clear BK268; clear HB; clear HO_269001; have HO_269000 := n0_; have HO_269002 := n1_; have BK268 := n2_; have HB := n3_; have HO283 := n4_; clear n0_ n1_ n2_ n3_ n4_; clear ho hb hg hat; obtain ⟨Ao56, co56, eo56⟩ := Kd.R_slice HO283.out; subst eo56; have hcz57_0 : w55.cell? ⟨gb268, 0, none⟩ = some (.slice Ao9 t269.length co9) := (blk_cell BK268.out 0).trans rfl; have hcz57_1 : w55.cell? ⟨gb268, 1, none⟩ = some (.slice Ao11 t272.length co11) := (blk_cell BK268.out 1).trans rfl; have hcz57_2 : w55.cell? ⟨gb268, 2, none⟩ = some (.slice Ao12 t275.length co12) := (blk_cell BK268.out 2).trans rfl; have hcz57_3 : w55.cell? ⟨gb268, 3, none⟩ = some (.int .i64 t278) := (blk_cell BK268.out 3).trans rfl; have hfz57_0 := blk_frozen BK268.out 0; have hfz57_1 := blk_frozen BK268.out 1; have hfz57_2 := blk_frozen BK268.out 2; have hfz57_3 := blk_frozen BK268.out 3) | ((with_reducible refine gate_builtin (b := .append) (xs := #[.tmp 38, .tmp 40]) rfl ?_); at_builtin; refine Kd.R_append Kd.string (w0 := w) w.heap.size rfl (.tmp 38) (.tmp 40) 24 9 (.string ⟨#[]⟩) 16 rfl Try.underlying24 info9 rfl (by decide) (by omega) (.slice Ao12 t275.length co12) t275 x2_4 [.string x2_4] (fun _ => True) (fun _ => False) rfl (by first | (go_simp; done) | (go_simp; rfl)) ?aP (fun _ hk => hk.elim) ?aF ?aO ?aB ?aS ?aL ?_; (case aP => exact rfl); (case aB => exact (by repeat (first | (with_reducible first | exact HB.out | apply below_alloc | apply pw_below_drewN | apply below_drew1 | refine below_set ?_ GE268.out) | exact HB.out))); (case aF => exact (fun _ _ => trivial)); (case aO => exact (by (with_reducible repeat (first | apply Kd.R_alloc | apply Kd.R_drewN | apply Kd.R_drew)); exact Kd.R_mono (Kd.R_far (p := ⟨gb268, 1, none⟩) (Kd.R_types HO_269002.out BK268.out (by decide)) (fun _ hk => hk.2) (.slice Ao56 y281.length co56)) (fun _ hk => trivial))); (case aS => exact (below_size (by repeat (first | (with_reducible first | exact HB.out | apply below_alloc | apply pw_below_drewN | apply below_drew1 | refine below_set ?_ GE268.out) | exact HB.out)))); (case aL => have := LMc34.out; omega); intro v285 w58 ho hb hg hat; rw [← Ny284.out] at ho; have n0_ := Aside0.mk (Kd.S_over' (by (with_reducible repeat (first | apply Kd.S_alloc | apply Kd.S_drewN | apply Kd.S_drew)); exact (Kd.S_mono (Kd.S_far (p := ⟨gb268, 1, none⟩) (Kd.S_types HO_269000.out BK268.out (by decide)) (fun _ hk => hk.2) (.slice Ao56 y281.length co56)) (fun _ h_ => h_.1))) (Kd.R_typed (by (with_reducible repeat (first | apply Kd.R_alloc | apply Kd.R_drewN | apply Kd.R_drew)); exact (Kd.R_mono (Kd.R_far (p := ⟨gb268, 1, none⟩) (Kd.R_types HO_269002.out BK268.out (by decide)) (fun _ hk => hk.2) (.slice Ao56 y281.length co56)) (fun _ h_ => h_.1)))) (by decide) hg); have n1_ := Aside0.mk (blk_grown (g := gb268) (o := .cells #[.slice Ao9 t269.length co9, .slice Ao56 y281.length co56, .slice Ao12 t275.length co12, .int .i64 t278] 26 (0, 0)) (by (with_reducible repeat (first | refine blk_drewN ?_ _ | refine blk_drew ?_ | refine blk_alloc ?_ _)); refine blk_put (cs := #[.slice Ao9 t269.length co9, .slice Ao11 t272.length co11, .slice Ao12 t275.length co12, .int .i64 t278]) ?_ 1 _ rfl; (with_reducible repeat (first | refine blk_drewN ?_ _ | refine blk_drew ?_ | refine blk_alloc ?_ _)); exact BK268.out) hg (Kd.R_ne HO_269002.out BK268.out (by decide))); have n2_ := Aside0.mk (Kd.R_over' (by (with_reducible repeat (first | apply Kd.R_alloc | apply Kd.R_drewN | apply Kd.R_drew)); exact (Kd.R_mono (Kd.R_far (p := ⟨gb268, 1, none⟩) (Kd.R_types HO283.out BK268.out (by decide)) (fun _ hk => hk.2) (.slice Ao56 y281.length co56)) (fun _ h_ => h_.1))) (Kd.R_typed (by (with_reducible repeat (first | apply Kd.R_alloc | apply Kd.R_drewN | apply Kd.R_drew)); exact (Kd.R_mono (Kd.R_far (p := ⟨gb268, 1, none⟩) (Kd.R_types HO_269002.out BK268.out (by decide)) (fun _ hk => hk.2) (.slice Ao56 y281.length co56)) (fun _ h_ => h_.1)))) (by decide) hg); have n3_ := Aside0.mk (hb); have n4_ := Aside0.mk (ho); clear HO_269000; clear BK268; clear HO283; clear HB; clear HO_269002; have HO_269000 := n0_; have BK268 := n1_; have HO283 := n2_; have HB := n3_; have HO286 := n4_; clear n0_ n1_ n2_ n3_ n4_; clear ho hb hg hat; obtain ⟨Ao59, co59, eo59⟩ := Kd.R_slice HO286.out; subst eo59; have hcz60_0 : w58.cell? ⟨gb268, 0, none⟩ = some (.slice Ao9 t269.length co9) := (blk_cell BK268.out 0).trans rfl; have hcz60_1 : w58.cell? ⟨gb268, 1, none⟩ = some (.slice Ao56 y281.length co56) := (blk_cell BK268.out 1).trans rfl; have hcz60_2 : w58.cell? ⟨gb268, 2, none⟩ = some (.slice Ao12 t275.length co12) := (blk_cell BK268.out 2).trans rfl; have hcz60_3 : w58.cell? ⟨gb268, 3, none⟩ = some (.int .i64 t278) := (blk_cell BK268.out 3).trans rfl; have hfz60_0 := blk_frozen BK268.out 0; have hfz60_1 := blk_frozen BK268.out 1; have hfz60_2 := blk_frozen BK268.out 2; have hfz60_3 := blk_frozen BK268.out 3) | ((with_reducible refine gate_dst (N := 51) rfl ?_); refine Kd.R_lit k37 _ 37 ?hg (N := 51) ?hd (xs := ([(⟨3, 0, 0⟩ : S37), (⟨15, 0, 0⟩ : S37)] : List (S37))) (inner := [.int .i64 3, .int .i64 0, .int .i64 0, .int .i64 15, .int .i64 0, .int .i64 0]) (ok := fun _ => True) (okp := fun _ => True) ?hr ?hp (fun _ hk => hk) trivial (Below.refl _ _) (Nat.le_refl _) (by simp) ?_; (case hd => rfl); (case hg => rfl); (case hr => first | (go_simp; done) | (go_simp; rfl)); (case hp => exact (Reps.c3 (show Kd.M k37 _ _ _ (⟨3, 0, 0⟩ : S37) [.int .i64 3, .int .i64 0, .int .i64 0] from (k37_mkM _ _ _ (⟨3, 0, 0⟩ : S37) )) (Reps.c3 (show Kd.M k37 _ _ _ (⟨15, 0, 0⟩ : S37) [.int .i64 15, .int .i64 0, .int .i64 0] from (k37_mkM _ _ _ (⟨15, 0, 0⟩ : S37) )) (Reps.none _ _)))); intro v288 w61 ho62 hb hg_ hnew_; clear hg_ hnew_; (first | rw [← Ny287.out] at ho62 | (simp only [Int.reduceToNat] at ho62; rw [← Ny287.out] at ho62)); have n0_ := Aside0.mk (Kd.S_elder' (by (with_reducible repeat (first | apply Kd.S_alloc | apply Kd.S_drewN | apply Kd.S_drew)); exact (Kd.S_mono (Kd.S_far (p := ⟨gb268, 3, none⟩) (Kd.S_far (p := ⟨gb268, 2, none⟩) (Kd.S_types HO_269000.out BK268.out (by decide)) (fun _ hk => hk.2) (.slice Ao59 y284.length co59)) (fun _ hk => hk.2) (.int .i64 (wrap64 (t278 + 1)))) (fun _ h_ => h_.1))) (Kd.R_base ho62) hb); have n1_ := Aside0.mk (Kd.R_below (by (with_reducible repeat (first | apply Kd.R_alloc | apply Kd.R_drewN | apply Kd.R_drew)); exact (Kd.R_mono (Kd.R_far (p := ⟨gb268, 3, none⟩) (Kd.R_far (p := ⟨gb268, 2, none⟩) (Kd.R_types HO283.out BK268.out (by decide)) (fun _ hk => hk.2) (.slice Ao59 y284.length co59)) (fun _ hk => hk.2) (.int .i64 (wrap64 (t278 + 1)))) (fun _ h_ => h_.1))) hb); have n2_ := Aside0.mk (Kd.R_below (by (with_reducible repeat (first | apply Kd.R_alloc | apply Kd.R_drewN | apply Kd.R_drew)); exact (Kd.R_mono (Kd.R_far (p := ⟨gb268, 3, none⟩) (Kd.R_far (p := ⟨gb268, 2, none⟩) (Kd.R_types HO286.out BK268.out (by decide)) (fun _ hk => hk.2) (.slice Ao59 y284.length co59)) (fun _ hk => hk.2) (.int .i64 (wrap64 (t278 + 1)))) (fun _ h_ => h_.1))) hb); have n3_ := Aside0.mk (Kd.R_lower ho62 (below_size (by repeat (first | (with_reducible first | exact HB.out | apply below_alloc | apply pw_below_drewN | apply below_drew1 | refine below_set ?_ GE268.out) | exact HB.out)))); have n4_ := Aside0.mk (blk_below (g := gb268) (o := .cells #[.slice Ao9 t269.length co9, .slice Ao56 y281.length co56, .slice Ao59 y284.length co59, .int .i64 (wrap64 (t278 + 1))] 26 (0, 0)) (by (with_reducible repeat (first | refine blk_drewN ?_ _ | refine blk_drew ?_ | refine blk_alloc ?_ _)); refine blk_put (cs := #[.slice Ao9 t269.length co9, .slice Ao56 y281.length co56, .slice Ao59 y284.length co59, .int .i64 t278]) ?_ 3 _ rfl; (with_reducible repeat (first | refine blk_drewN ?_ _ | refine blk_drew ?_ | refine blk_alloc ?_ _)); refine blk_put (cs := #[.slice Ao9 t269.length co9, .slice Ao56 y281.length co56, .slice Ao12 t275.length co12, .int .i64 t278]) ?_ 2 _ rfl; (with_reducible repeat (first | refine blk_drewN ?_ _ | refine blk_drew ?_ | refine blk_alloc ?_ _)); exact BK268.out) hb); have n5_ := Aside0.mk (below_step (by repeat (first | (with_reducible first | exact HB.out | apply below_alloc | apply pw_below_drewN | apply below_drew1 | refine below_set ?_ GE268.out) | exact HB.out)) hb); clear HO_269000; clear HO283; clear HO286; clear BK268; clear HB; have HO_269000 := n0_; have HO283 := n1_; have HO286 := n2_; have HO289 := n3_; have BK268 := n4_; have HB := n5_; clear n0_ n1_ n2_ n3_ n4_ n5_; clear hb ho62; obtain ⟨Ao63, co63, eo63⟩ := Kd.R_slice HO289.out; subst eo63) | ((with_reducible refine gate_builtin (b := .append) (xs := #[.tmp 48, .tmp 53]) rfl ?_); at_builtin; refine Kd.S_append k32 (w0 := w) w.heap.size rfl (.tmp 48) (.tmp 53) 22 32 (.agg #[(.int .i64 0), (.int .i64 0), (.int .i64 0), (.slice none 0 0)]) 48 rfl Try.underlying22 info32 rfl (by decide) (by omega) (.slice Ao9 t269.length co9) t269 (⟨0, 1, 1, y287⟩ : S32) [.int .i64 0, .int .i64 1, .int .i64 1, .slice Ao63 y287.length co63] (fun _ => True) (fun k_ => some k_ = (.slice Ao63 y287.length co63 : Value).ownBlock) rfl rfl ?aP (fun k_ hk_ => ((Kd.R_mono (ok' := fun k_ => ((fun _ => True)) k_ ∧ some k_ ≠ (.slice Ao9 t269.length co9 : Value).ownBlock) (Kd.R_apart' (HO289.out) (Kd.S_typed HO_269000.out) (by decide)) (fun k_ hk => ⟨trivial, hk.2⟩))).1 k_ hk_.symm) ?aF ?aO ?aB ?aS ?aL ?_; (case aP => exact k32_mkM _ _ _ (⟨0, 1, 1, y287⟩ : S32) (Kd.R_mono (Kd.R_tight rfl (Kd.R_mono (ok' := fun k_ => ((fun _ => True)) k_ ∧ some k_ ≠ (.slice Ao9 t269.length co9 : Value).ownBlock) (Kd.R_apart' (HO289.out) (Kd.S_typed HO_269000.out) (by decide)) (fun k_ hk => ⟨trivial, hk.2⟩))) (fun _ h_ => h_))); (case aB => exact (by repeat (first | (with_reducible first | exact HB.out | apply below_alloc | apply pw_below_drewN | apply below_drew1 | refine below_set ?_ GE268.out) | exact HB.out))); (case aF => exact (fun _ _ => trivial)); (case aO => exact (by (with_reducible repeat (first | apply Kd.S_alloc | apply Kd.S_drewN | apply Kd.S_drew)); exact Kd.S_mono HO_269000.out (fun k_ hk => ⟨trivial, fun e_ => hk.2 e_⟩))); (case aS => exact (below_size (by repeat (first | (with_reducible first | exact HB.out | apply below_alloc | apply pw_below_drewN | apply below_drew1 | refine below_set ?_ GE268.out) | exact HB.out)))); (case aL => have := LMc35.out; omega); intro v291 w64 ho hb hg hat; rw [← Ny290.out] at ho; have n0_ := Aside0.mk (blk_grown (g := gb268) (o := .cells #[.slice Ao9 t269.length co9, .slice Ao56 y281.length co56, .slice Ao59 y284.length co59, .int .i64 (wrap64 (t278 + 1))] 26 (0, 0)) (by (with_reducible repeat (first | refine blk_drewN ?_ _ | refine blk_drew ?_ | refine blk_alloc ?_ _)); exact BK268.out) hg (Kd.S_ne HO_269000.out BK268.out (by decide))); have n1_ := Aside0.mk (Kd.R_over' (by (with_reducible repeat (first | apply Kd.R_alloc | apply Kd.R_drewN | apply Kd.R_drew)); exact HO283.out) (Kd.S_typed (by (with_reducible repeat (first | apply Kd.S_alloc | apply Kd.S_drewN | apply Kd.S_drew)); exact HO_269000.out)) (by decide) hg); have n2_ := Aside0.mk (Kd.R_over' (by (with_reducible repeat (first | apply Kd.R_alloc | apply Kd.R_drewN | apply Kd.R_drew)); exact HO286.out) (Kd.S_typed (by (with_reducible repeat (first | apply Kd.S_alloc | apply Kd.S_drewN | apply Kd.S_drew)); exact HO_269000.out)) (by decide) hg); have n3_ := Aside0.mk (hb); have n4_ := Aside0.mk (ho); clear BK268; clear HO283; clear HO286; clear HB; clear HO_269000; clear HO289; have BK268 := n0_; have HO283 := n1_; have HO286 := n2_; have HB := n3_; have HO292 := n4_; clear n0_ n1_ n2_ n3_ n4_; clear ho hb hg hat; obtain ⟨Ao65, co65, eo65⟩ := Kd.S_slice HO292.out; subst eo65; have hcz66_0 : w64.cell? ⟨gb268, 0, none⟩ = some (.slice Ao9 t269.length co9) := (blk_cell BK268.out 0).trans rfl; have hcz66_1 : w64.cell? ⟨gb268, 1, none⟩ = some (.slice Ao56 y281.length co56) := (blk_cell BK268.out 1).trans rfl; have hcz66_2 : w64.cell? ⟨gb268, 2, none⟩ = some (.slice Ao59 y284.length co59) := (blk_cell BK268.out 2).trans rfl; have hcz66_3 : w64.cell? ⟨gb268, 3, none⟩ = some (.int .i64 (wrap64 (t278 + 1))) := (blk_cell BK268.out 3).trans rfl; have hfz66_0 := blk_frozen BK268.out 0; have hfz66_1 := blk_frozen BK268.out 1; have hfz66_2 := blk_frozen BK268.out 2; have hfz66_3 := blk_frozen BK268.out 3) | ((with_reducible refine gate_callee (f := 12) rfl ?_); refine goesL_ (some 57) rfl rfl Try.func12 (by kernel_rfl) rfl #[.agg #[.slice Ao65 y290.length co65, .slice Ao56 y281.length co56, .slice Ao59 y284.length co59, .int .i64 (wrap64 (t278 + 1))]] rfl (by (try simp only [List.map_toArray, List.map_cons, List.map_nil]); first | done | rfl | (simp only [List.length_drop, List.length_take]; rfl)) ?_; (with_reducible refine (verify_Code.calls _ _ y290 _ _ y281 _ _ y284 (wrap64 (t278 + 1)) t293 _ ?side1 ?side2 ?side3 ?side4 ?side5 ?side6 A36.out).mono ?_); (case side1 => refine (Kd.S_reads' (e := 32) (base := w.heap.size) (ok := fun k_ => True) (n := y290.length) (c := co65) ?_).2.2; exact (by (with_reducible repeat (first | apply Kd.S_alloc | apply Kd.S_drewN | apply Kd.S_drew)); exact (Kd.S_mono (Kd.S_far (p := ⟨gb268, 0, none⟩) (Kd.S_types HO292.out BK268.out (by decide)) (fun _ hk => hk.2) (.slice Ao65 y290.length co65)) (fun _ h_ => h_.1)))); (case side2 => exact (Kd.S_reads' HO292.out).2.1); (case side3 => refine (Kd.R_reads' (e := 3) (base := w.heap.size) (ok := fun k_ => True) (n := y281.length) (c := co56) ?_).2.2; exact (by (with_reducible repeat (first | apply Kd.R_alloc | apply Kd.R_drewN | apply Kd.R_drew)); exact (Kd.R_mono (Kd.R_far (p := ⟨gb268, 0, none⟩) (Kd.R_types HO283.out BK268.out (by decide)) (fun _ hk => hk.2) (.slice Ao65 y290.length co65)) (fun _ h_ => h_.1)))); (case side4 => exact (Kd.R_reads' HO283.out).2.1); (case side5 => refine (Kd.R_reads' (e := 9) (base := w.heap.size) (ok := fun k_ => True) (n := y284.length) (c := co59) ?_).2.2; exact (by (with_reducible repeat (first | apply Kd.R_alloc | apply Kd.R_drewN | apply Kd.R_drew)); exact (Kd.R_mono (Kd.R_far (p := ⟨gb268, 0, none⟩) (Kd.R_types HO286.out BK268.out (by decide)) (fun _ hk => hk.2) (.slice Ao65 y290.length co65)) (fun _ h_ => h_.1)))); (case side6 => exact (Kd.R_reads' HO286.out).2.1); rintro e w67 ⟨rfl, hb⟩; refine ⟨_, rfl, ?_⟩; have n0_ := Aside0.mk (Kd.R_below (by (with_reducible repeat (first | apply Kd.R_alloc | apply Kd.R_drewN | apply Kd.R_drew)); exact (Kd.R_mono (Kd.R_far (p := ⟨gb268, 0, none⟩) (Kd.R_types HO283.out BK268.out (by decide)) (fun _ hk => hk.2) (.slice Ao65 y290.length co65)) (fun _ h_ => h_.1))) hb); have n1_ := Aside0.mk (Kd.R_below (by (with_reducible repeat (first | apply Kd.R_alloc | apply Kd.R_drewN | apply Kd.R_drew)); exact (Kd.R_mono (Kd.R_far (p := ⟨gb268, 0, none⟩) (Kd.R_types HO286.out BK268.out (by decide)) (fun _ hk => hk.2) (.slice Ao65 y290.length co65)) (fun _ h_ => h_.1))) hb); have n2_ := Aside0.mk (Kd.S_below (by (with_reducible repeat (first | apply Kd.S_alloc | apply Kd.S_drewN | apply Kd.S_drew)); exact (Kd.S_mono (Kd.S_far (p := ⟨gb268, 0, none⟩) (Kd.S_types HO292.out BK268.out (by decide)) (fun _ hk => hk.2) (.slice Ao65 y290.length co65)) (fun _ h_ => h_.1))) hb); have n3_ := Aside0.mk (blk_below (g := gb268) (o := .cells #[.slice Ao65 y290.length co65, .slice Ao56 y281.length co56, .slice Ao59 y284.length co59, .int .i64 (wrap64 (t278 + 1))] 26 (0, 0)) (by (with_reducible repeat (first | refine blk_drewN ?_ _ | refine blk_drew ?_ | refine blk_alloc ?_ _)); refine blk_put (cs := #[.slice Ao9 t269.length co9, .slice Ao56 y281.length co56, .slice Ao59 y284.length co59, .int .i64 (wrap64 (t278 + 1))]) ?_ 0 _ rfl; (with_reducible repeat (first | refine blk_drewN ?_ _ | refine blk_drew ?_ | refine blk_alloc ?_ _)); exact BK268.out) hb); have n4_ := Aside0.mk (below_step (by repeat (first | (with_reducible first | exact HB.out | apply below_alloc | apply pw_below_drewN | apply below_drew1 | refine below_set ?_ GE268.out) | exact HB.out)) hb); clear HO283; clear HO286; clear HO292; clear BK268; clear HB; have HO283 := n0_; have HO286 := n1_; have HO292 := n2_; have BK268 := n3_; have HB := n4_; clear n0_ n1_ n2_ n3_ n4_; (try clear hb); (try clear hb2); (try clear hk); (try clear hi)))
        go_ret
        exact ⟨by first | rfl | (simp [errW_none, errW_some] <;> rfl) | (simp [*, errW_none, errW_some] <;> rfl), by repeat (first | (with_reducible first | exact HB.out | apply below_alloc | apply pw_below_drewN | apply below_drew1 | refine below_set ?_ GE268.out) | exact HB.out)⟩
       rw [if_neg c35] at H
       exact absurd H (by simp)
      rw [if_neg c34] at H
      exact absurd H (by simp)
     rw [if_neg c33] at H
     exact absurd H (by simp)

end Go.Proofs.Ytnhipgmphhndhaa.Q
