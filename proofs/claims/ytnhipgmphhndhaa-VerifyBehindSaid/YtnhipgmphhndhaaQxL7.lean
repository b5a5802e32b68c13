-- PRINTED by print.py (a twelfth state) out of the translation. Not trusted: Lean checks it.
import Derived.Test.YtnhipgmphhndhaaQx0
import Derived.Test.YtnhipgmphhndhaaQx3
import Derived.Test.YtnhipgmphhndhaaQx13
import Derived.Test.YtnhipgmphhndhaaQx15
import Derived.Test.YtnhipgmphhndhaaVh
import Derived.Test.YtnhipgmphhndhaaVi
import Derived.Test.YtnhipgmphhndhaaVn
namespace Go.Proofs.Ytnhipgmphhndhaa.Q
open Go.RowKit Go.Proofs.YtnhipgmphhndhaaW.PrintWords Go.Proofs.YtnhipgmphhndhaaW.PrintLast Go.Proofs.YtnhipgmphhndhaaW.PrintMore
attribute [local go_sem] max2_int min2_int max_two min_two max_three min_three max_four min_four   -- for this text's walks alone
set_option linter.unusedVariables false
set_option linter.unusedSectionVars false
set_option linter.unusedSimpArgs false

/-! ### selvagelaw14_VerifyBehind: function 7 -/
mutual
noncomputable def selvagelaw14_VerifyBehind.j0 : Nat → Int → Int → List Int → Bool → List (S32) → List Int → List ByteArray → Int → Int → Int → Int → Option (Bool)
 | 0, _, _, _, _, _, _, _, _, _, _, _ => none
 | k + 1, x1, x2, x10, x27, x324000, x324001, x324002, x324003, x325000, x325001, x325002 => if x27 = true then ((selvagelaw14_lives.f).bind fun t339 => (some t339)) else (if x2 < 0 then (selvagelaw14_VerifyBehind.j1 k x1 (wrap64 (-(wrap64 (x2 + 1)))) x10 x324000 x324001 x324002 x324003 x325000 x325001 x325002) else (selvagelaw14_VerifyBehind.j1 k x1 x2 x10 x324000 x324001 x324002 x324003 x325000 x325001 x325002))
noncomputable def selvagelaw14_VerifyBehind.j1 : Nat → Int → Int → List Int → List (S32) → List Int → List ByteArray → Int → Int → Int → Int → Option (Bool)
 | 0, _, _, _, _, _, _, _, _, _, _ => none
 | k + 1, x1, x2, x10, x324000, x324001, x324002, x324003, x325000, x325001, x325002 => if (x10.length : Int) = 0 then (none) else (if 0 ≤ (Int.tmod x2 (x10.length : Int)) then (if (Int.tmod x2 (x10.length : Int)) < (x10.length : Int) then (if (rd x10 (Int.tmod x2 (x10.length : Int))) ≥ 0 then ((selvagelaw14_lives.f).bind fun t341 => (some t341)) else ((verify_Code.f x324000 x324001 x324002 x324003).bind fun t342 => (if 0 ≤ x1 then (if x1 < (x324000.length : Int) then (if (Int.tmod x2 (x10.length : Int)) < (((rd_T32 x324000 x1).f3).length : Int) then ((some (x324000.set (x1 : Int).toNat (⟨(rd_T32 x324000 x1).f0, (rd_T32 x324000 x1).f1, (rd_T32 x324000 x1).f2, (((rd_T32 x324000 x1).f3).set ((Int.tmod x2 (x10.length : Int)) : Int).toNat (⟨x325000, x325001, x325002⟩ : S37))⟩ : S32) : List (S32))).bind fun y346 => ((verify_Depths.f y346 x324001 x324002 x324003 x1).bind fun t347 => ((selvageref02_SameInts.f k t347 x10).bind fun t350 => (if t350 = true then ((verify_Code.f y346 x324001 x324002 x324003).bind fun t351 => (if t351 = t342 then ((selvagelaw14_lives.f).bind fun t352 => (some t352)) else (some false))) else (some false))))) else (none)) else (none)) else (none)))) else (none)) else (none))
end
noncomputable def selvagelaw14_VerifyBehind.f (k : Nat) (l0_0 : List (S32)) (l0_1 : List Int) (l0_2 : List ByteArray) (a0_3 : Int) (a1 : Int) (a2 : Int) (a3_0 : Int) (a3_1 : Int) (a3_2 : Int) : Option (Bool) := (selvageref13_Cut.f k l0_0 l0_1 l0_2 a0_3).bind fun bt325 => ((selvageref13_Instr.f k a3_0 a3_1 a3_2).bind fun t335 => ((verify_Depths.f bt325.1 bt325.2.1 bt325.2.2.1 bt325.2.2.2 a1).bind fun t336 => (if t335 = true then (selvagelaw14_VerifyBehind.j0 k a1 a2 t336 ((t336.length : Int) == 0) bt325.1 bt325.2.1 bt325.2.2.1 bt325.2.2.2 a3_0 a3_1 a3_2) else (selvagelaw14_VerifyBehind.j0 k a1 a2 t336 true bt325.1 bt325.2.1 bt325.2.2.1 bt325.2.2.2 a3_0 a3_1 a3_2))))
theorem selvagelaw14_VerifyBehind.mono_l : ∀ k, (∀ y0 y1 y2 y3 y4 y5 y6 y7 y8 y9 y10, LeO (selvagelaw14_VerifyBehind.j0 k y0 y1 y2 y3 y4 y5 y6 y7 y8 y9 y10) (selvagelaw14_VerifyBehind.j0 (k + 1) y0 y1 y2 y3 y4 y5 y6 y7 y8 y9 y10)) ∧ (∀ y0 y1 y2 y3 y4 y5 y6 y7 y8 y9, LeO (selvagelaw14_VerifyBehind.j1 k y0 y1 y2 y3 y4 y5 y6 y7 y8 y9) (selvagelaw14_VerifyBehind.j1 (k + 1) y0 y1 y2 y3 y4 y5 y6 y7 y8 y9))
 | 0 => ⟨fun _ _ _ _ _ _ _ _ _ _ _ r h => by simp [selvagelaw14_VerifyBehind.j0] at h, fun _ _ _ _ _ _ _ _ _ _ r h => by simp [selvagelaw14_VerifyBehind.j1] at h⟩
 | k + 1 => by
  obtain ⟨ih0, ih1⟩ := selvagelaw14_VerifyBehind.mono_l k
  refine ⟨?_, ?_⟩
  ·intro y0 y1 y2 y3 y4 y5 y6 y7 y8 y9 y10
   unfold selvagelaw14_VerifyBehind.j0
   repeat' first
   | (with_reducible exact ih0 _ _ _ _ _ _ _ _ _ _ _)
   | (with_reducible exact ih1 _ _ _ _ _ _ _ _ _ _)
   | (with_reducible exact selvageref02_SameInts.mono _ _ _)
   | (with_reducible exact selvageref13_Cut.mono _ _ _ _ _)
   | (with_reducible exact selvageref13_Instr.mono _ _ _ _)
   | (with_reducible exact LeO.refl _)
   | (with_reducible exact LeO.none _)
   | (with_reducible refine LeO.ite ?_ ?_)
   | (with_reducible refine LeO.bind ?_ (fun _ => ?_))
   | exact ih0 _ _ _ _ _ _ _ _ _ _ _
   | exact ih1 _ _ _ _ _ _ _ _ _ _
   | exact selvageref02_SameInts.mono _ _ _
   | exact selvageref13_Cut.mono _ _ _ _ _
   | exact selvageref13_Instr.mono _ _ _ _
   | exact LeO.none _
   | refine LeO.ite ?_ ?_
   | refine LeO.bind ?_ (fun _ => ?_)
  intro y0 y1 y2 y3 y4 y5 y6 y7 y8 y9
  unfold selvagelaw14_VerifyBehind.j1
  repeat' first
  | (with_reducible exact ih0 _ _ _ _ _ _ _ _ _ _ _)
  | (with_reducible exact ih1 _ _ _ _ _ _ _ _ _ _)
  | (with_reducible exact selvageref02_SameInts.mono _ _ _)
  | (with_reducible exact selvageref13_Cut.mono _ _ _ _ _)
  | (with_reducible exact selvageref13_Instr.mono _ _ _ _)
  | (with_reducible exact LeO.refl _)
  | (with_reducible exact LeO.none _)
  | (with_reducible refine LeO.ite ?_ ?_)
  | (with_reducible refine LeO.bind ?_ (fun _ => ?_))
  | exact ih0 _ _ _ _ _ _ _ _ _ _ _
  | exact ih1 _ _ _ _ _ _ _ _ _ _
  | exact selvageref02_SameInts.mono _ _ _
  | exact selvageref13_Cut.mono _ _ _ _ _
  | exact selvageref13_Instr.mono _ _ _ _
  | exact LeO.none _
  | refine LeO.ite ?_ ?_
  | refine LeO.bind ?_ (fun _ => ?_)
theorem selvagelaw14_VerifyBehind.mono : ∀ a0 a1 a2 a3 a4 a5 a6 a7 a8 k, LeO (selvagelaw14_VerifyBehind.f k a0 a1 a2 a3 a4 a5 a6 a7 a8) (selvagelaw14_VerifyBehind.f (k + 1) a0 a1 a2 a3 a4 a5 a6 a7 a8) := by
 intro a0 a1 a2 a3 a4 a5 a6 a7 a8 k
 obtain ⟨ih0, ih1⟩ := selvagelaw14_VerifyBehind.mono_l k
 unfold selvagelaw14_VerifyBehind.f
 repeat' first
   | (with_reducible exact ih0 _ _ _ _ _ _ _ _ _ _ _)
   | (with_reducible exact ih1 _ _ _ _ _ _ _ _ _ _)
   | (with_reducible exact selvageref02_SameInts.mono _ _ _)
   | (with_reducible exact selvageref13_Cut.mono _ _ _ _ _)
   | (with_reducible exact selvageref13_Instr.mono _ _ _ _)
   | (with_reducible exact LeO.refl _)
   | (with_reducible exact LeO.none _)
   | (with_reducible refine LeO.ite ?_ ?_)
   | (with_reducible refine LeO.bind ?_ (fun _ => ?_))
   | exact ih0 _ _ _ _ _ _ _ _ _ _ _
   | exact ih1 _ _ _ _ _ _ _ _ _ _
   | exact selvageref02_SameInts.mono _ _ _
   | exact selvageref13_Cut.mono _ _ _ _ _
   | exact selvageref13_Instr.mono _ _ _ _
   | exact LeO.none _
   | refine LeO.ite ?_ ?_
   | refine LeO.bind ?_ (fun _ => ?_)
noncomputable def selvagelaw14_VerifyBehind.T12 : Bool × List (List Nat × List Nat) := (true, [([], []), ([0], [0]), ([], []), ([1, 2], [1, 2]), ([3], [3]), ([4], [4]), ([], []), ([], []), ([5, 6, 0, 1, 2, 3, 4, 5, 6, 7], [5, 6]), ([8, 7, 0, 1, 2, 3, 4, 5, 6, 7], [7, 8])])
noncomputable def selvagelaw14_VerifyBehind.B12 : List Nat := [0, 1, 0, 7, 15, 31, 0, 0, 255, 511]
theorem selvagelaw14_VerifyBehind.tab12 : rtab .any (opsOf Try.f7 12) = selvagelaw14_VerifyBehind.T12 := by kernel_rfl
theorem selvagelaw14_VerifyBehind.bits12 : waitsOk selvagelaw14_VerifyBehind.T12.2 selvagelaw14_VerifyBehind.B12 = true := by kernel_rfl
set_option maxHeartbeats 8000000 in
set_option maxRecDepth 100000 in
theorem selvagelaw14_VerifyBehind.calls (k : Nat) (A0_0 : Option Addr) (c0_0 : Nat) (l0_0 : List (S32)) (A0_1 : Option Addr) (c0_1 : Nat) (l0_1 : List Int) (A0_2 : Option Addr) (c0_2 : Nat) (l0_2 : List ByteArray) (a0_3 : Int) (a1 : Int) (a2 : Int) (a3_0 : Int) (a3_1 : Int) (a3_2 : Int) (r : Bool) (w : World) (hr0_0 : Kd.C k32 w A0_0 l0_0.length l0_0) (hc0_0 : l0_0.length ≤ c0_0) (hr0_1 : Kd.C (Kd.int .i64) w A0_1 l0_1.length l0_1) (hc0_1 : l0_1.length ≤ c0_1) (hr0_2 : Kd.C Kd.string w A0_2 l0_2.length l0_2) (hc0_2 : l0_2.length ≤ c0_2) (h : selvagelaw14_VerifyBehind.f k l0_0 l0_1 l0_2 a0_3 a1 a2 a3_0 a3_1 a3_2 = some r) :
  Calls Try.prog 7 #[.agg #[.slice A0_0 l0_0.length c0_0, .slice A0_1 l0_1.length c0_1, .slice A0_2 l0_2.length c0_2, .int .i64 a0_3], .int .i64 a1, .int .i64 a2, .agg #[.int .i64 a3_0, .int .i64 a3_1, .int .i64 a3_2]] w fun e w' => e = .returned (.bool r) ∧ Below w.heap.size w w' := by
 have hu26 := Try.underlying26
 have hu37 := Try.underlying37
 have HR0_0 := Aside0.mk hr0_0
 have HC0_0 := Aside0.mk hc0_0
 clear hr0_0 hc0_0
 have HR0_1 := Aside0.mk hr0_1
 have HC0_1 := Aside0.mk hc0_1
 clear hr0_1 hc0_1
 have HR0_2 := Aside0.mk hr0_2
 have HC0_2 := Aside0.mk hc0_2
 clear hr0_2 hc0_2
 have HB := Aside0.mk (Below.refl w.heap.size w)
 have H : ((selvageref13_Cut.f k l0_0 l0_1 l0_2 a0_3).bind fun bt325 => ((selvageref13_Instr.f k a3_0 a3_1 a3_2).bind fun t335 => ((verify_Depths.f bt325.1 bt325.2.1 bt325.2.2.1 bt325.2.2.2 a1).bind fun t336 => (if t335 = true then (selvagelaw14_VerifyBehind.j0 k a1 a2 t336 ((t336.length : Int) == 0) bt325.1 bt325.2.1 bt325.2.2.1 bt325.2.2.2 a3_0 a3_1 a3_2) else (selvagelaw14_VerifyBehind.j0 k a1 a2 t336 true bt325.1 bt325.2.1 bt325.2.2.1 bt325.2.2.2 a3_0 a3_1 a3_2))))) = some r := h
 clear h
 replace H := Option.bind_eq_some_iff.mp H
 obtain ⟨⟨t325, t328, t331, t334⟩, A50, H⟩ := H
 replace H : ((selvageref13_Instr.f k a3_0 a3_1 a3_2).bind fun t335 => ((verify_Depths.f t325 t328 t331 t334 a1).bind fun t336 => (if t335 = true then (selvagelaw14_VerifyBehind.j0 k a1 a2 t336 ((t336.length : Int) == 0) t325 t328 t331 t334 a3_0 a3_1 a3_2) else (selvagelaw14_VerifyBehind.j0 k a1 a2 t336 true t325 t328 t331 t334 a3_0 a3_1 a3_2)))) = some r := H
 have A5 := Aside0.mk A50
 clear A50
 replace H := Option.bind_eq_some_iff.mp H
 obtain ⟨t335, A60, H⟩ := H
 replace H : ((verify_Depths.f t325 t328 t331 t334 a1).bind fun t336 => (if t335 = true then (selvagelaw14_VerifyBehind.j0 k a1 a2 t336 ((t336.length : Int) == 0) t325 t328 t331 t334 a3_0 a3_1 a3_2) else (selvagelaw14_VerifyBehind.j0 k a1 a2 t336 true t325 t328 t331 t334 a3_0 a3_1 a3_2))) = some r := H
 have A6 := Aside0.mk A60
 clear A60
 replace H := Option.bind_eq_some_iff.mp H
 obtain ⟨t336, A70, H⟩ := H
 replace H : (if t335 = true then (selvagelaw14_VerifyBehind.j0 k a1 a2 t336 ((t336.length : Int) == 0) t325 t328 t331 t334 a3_0 a3_1 a3_2) else (selvagelaw14_VerifyBehind.j0 k a1 a2 t336 true t325 t328 t331 t334 a3_0 a3_1 a3_2)) = some r := H
 have A7 := Aside0.mk A70
 clear A70
 have HC8 := Aside0.mk H
 clear H
 go_enter Try.func7, Try.ntmps7
 go_upto_region 4 with (first | ((with_reducible refine gate_dst (N := 4) rfl ?_); (try (refine gate_guard (by rfl) ?_; dsimp only)); refine box_event ?hg (N := 4) ?hd (cs := #[.slice A0_0 l0_0.length c0_0, .slice A0_1 l0_1.length c0_1, .slice A0_2 l0_2.length c0_2, .int .i64 a0_3]) (t := 26) ?hr ?_; (case hd => rfl); (case hg => rfl); (case hr => first | (go_simp; done) | (go_simp; rfl)); intro gb323 hg w9 hbox hb; have n0_ := Aside0.mk (below_step (by repeat (first | (with_reducible first | exact HB.out | apply below_alloc | apply pw_below_drewN | apply below_drew1) | exact HB.out)) hb); have n1_ := Aside0.mk (hbox); have n2_ := Aside0.mk ((by rw [hg]; exact (below_size (by repeat (first | (with_reducible first | exact HB.out | apply below_alloc | apply pw_below_drewN | apply below_drew1) | exact HB.out))) : w.heap.size ≤ gb323)); have n3_ := Aside0.mk ((by rw [hg]; exact (below_size (by repeat (first | (with_reducible first | exact HB.out | apply below_alloc | apply pw_below_drewN | apply below_drew1) | exact HB.out))) : w.heap.size ≤ gb323)); clear HB; have HB := n0_; have BK323 := n1_; have GW323 := n2_; have GE323 := n3_; clear n0_ n1_ n2_ n3_; clear hb hbox hg) | ((with_reducible refine gate_dst (N := 7) rfl ?_); (try (refine gate_guard (by rfl) ?_; dsimp only)); refine box_event ?hg (N := 7) ?hd (cs := #[.int .i64 a3_0, .int .i64 a3_1, .int .i64 a3_2]) (t := 37) ?hr ?_; (case hd => rfl); (case hg => rfl); (case hr => first | (go_simp; done) | (go_simp; rfl)); intro gb324 hg w10 hbox hb; have n0_ := Aside0.mk (blk_below (g := gb323) (o := .cells #[.slice A0_0 l0_0.length c0_0, .slice A0_1 l0_1.length c0_1, .slice A0_2 l0_2.length c0_2, .int .i64 a0_3] 26 (0, 0)) (by (with_reducible repeat (first | refine blk_drewN ?_ _ | refine blk_drew ?_ | refine blk_alloc ?_ _)); exact BK323.out) hb); have n1_ := Aside0.mk (below_step (by repeat (first | (with_reducible first | exact HB.out | apply below_alloc | apply pw_below_drewN | apply below_drew1 | refine below_set ?_ GE323.out) | exact HB.out)) hb); have n2_ := Aside0.mk (hbox); have n3_ := Aside0.mk ((by rw [hg]; exact (below_size (by repeat (first | (with_reducible first | exact HB.out | apply below_alloc | apply pw_below_drewN | apply below_drew1 | refine below_set ?_ GE323.out) | exact HB.out))) : w.heap.size ≤ gb324)); have n4_ := Aside0.mk ((by rw [hg]; exact (below_size (by repeat (first | (with_reducible first | exact HB.out | apply below_alloc | apply pw_below_drewN | apply below_drew1 | refine below_set ?_ GE323.out) | exact HB.out))) : w.heap.size ≤ gb324)); have n5_ := Aside0.mk ((by rw [hg]; exact Nat.ne_of_lt (blk_lt (g := gb323) (o := .cells #[.slice A0_0 l0_0.length c0_0, .slice A0_1 l0_1.length c0_1, .slice A0_2 l0_2.length c0_2, .int .i64 a0_3] 26 (0, 0)) (by (with_reducible repeat (first | refine blk_drewN ?_ _ | refine blk_drew ?_ | refine blk_alloc ?_ _)); exact BK323.out)) : gb323 ≠ gb324)); have n6_ := Aside0.mk ((by rw [hg]; exact Nat.ne_of_gt (blk_lt (g := gb323) (o := .cells #[.slice A0_0 l0_0.length c0_0, .slice A0_1 l0_1.length c0_1, .slice A0_2 l0_2.length c0_2, .int .i64 a0_3] 26 (0, 0)) (by (with_reducible repeat (first | refine blk_drewN ?_ _ | refine blk_drew ?_ | refine blk_alloc ?_ _)); exact BK323.out)) : gb324 ≠ gb323)); clear BK323; clear HB; have BK323 := n0_; have HB := n1_; have BK324 := n2_; have GW324 := n3_; have GE324 := n4_; have NB323_324 := n5_; have NB324_323 := n6_; clear n0_ n1_ n2_ n3_ n4_ n5_ n6_; clear hb hbox hg; have hnb11 := NB323_324.out; have hnc11 := NB324_323.out; have hcz12_0 : w10.cell? ⟨gb323, 0, none⟩ = some (.slice A0_0 l0_0.length c0_0) := (blk_cell BK323.out 0).trans rfl; have hcz12_1 : w10.cell? ⟨gb323, 1, none⟩ = some (.slice A0_1 l0_1.length c0_1) := (blk_cell BK323.out 1).trans rfl; have hcz12_2 : w10.cell? ⟨gb323, 2, none⟩ = some (.slice A0_2 l0_2.length c0_2) := (blk_cell BK323.out 2).trans rfl; have hcz12_3 : w10.cell? ⟨gb323, 3, none⟩ = some (.int .i64 a0_3) := (blk_cell BK323.out 3).trans rfl; have hfz12_0 := blk_frozen BK323.out 0; have hfz12_1 := blk_frozen BK323.out 1; have hfz12_2 := blk_frozen BK323.out 2; have hfz12_3 := blk_frozen BK323.out 3) | ((with_reducible refine gate_callee (f := 8) rfl ?_); refine goesL_ (some 15) rfl rfl Try.func8 (by kernel_rfl) rfl #[.agg #[.slice A0_0 l0_0.length c0_0, .slice A0_1 l0_1.length c0_1, .slice A0_2 l0_2.length c0_2, .int .i64 a0_3]] rfl (by (try simp only [List.map_toArray, List.map_cons, List.map_nil]); first | done | rfl | (simp only [List.length_drop, List.length_take]; rfl)) ?_; (with_reducible refine (selvageref13_Cut.calls k _ _ l0_0 _ _ l0_1 _ _ l0_2 a0_3 t325 t328 t331 t334 _ ?side1 ?side2 ?side3 ?side4 ?side5 ?side6 A5.out).mono ?_); (case side1 => repeat (first | exact (Kd.C_below HR0_0.out HB.out) | (with_reducible refine Kd.C_alloc ?_ _) | (with_reducible refine Kd.C_drewN ?_ _) | (with_reducible refine Kd.C_drew ?_))); (case side2 => exact HC0_0.out); (case side3 => repeat (first | exact (Kd.C_below HR0_1.out HB.out) | (with_reducible refine Kd.C_alloc ?_ _) | (with_reducible refine Kd.C_drewN ?_ _) | (with_reducible refine Kd.C_drew ?_))); (case side4 => exact HC0_1.out); (case side5 => repeat (first | exact (Kd.C_below HR0_2.out HB.out) | (with_reducible refine Kd.C_alloc ?_ _) | (with_reducible refine Kd.C_drewN ?_ _) | (with_reducible refine Kd.C_drew ?_))); (case side6 => exact HC0_2.out); rintro e w13 ⟨v326, v329, v332, rfl, ho0, ho1, ho2, hb⟩; refine ⟨_, rfl, ?_⟩; have n0_ := Aside0.mk (Kd.S_lower (Kd.S_newB ho0 (g := gb324) (o := .cells #[.int .i64 a3_0, .int .i64 a3_1, .int .i64 a3_2] 37 (0, 0)) (by (with_reducible repeat (first | refine blk_drewN ?_ _ | refine blk_drew ?_ | refine blk_alloc ?_ _)); exact BK324.out)) (below_size (by repeat (first | (with_reducible first | exact HB.out | apply below_alloc | apply pw_below_drewN | apply below_drew1 | refine below_set ?_ GE323.out | refine below_set ?_ GE324.out) | exact HB.out)))); have n1_ := Aside0.mk (Kd.R_lower ho1 (below_size (by repeat (first | (with_reducible first | exact HB.out | apply below_alloc | apply pw_below_drewN | apply below_drew1 | refine below_set ?_ GE323.out | refine below_set ?_ GE324.out) | exact HB.out)))); have n2_ := Aside0.mk (Kd.R_lower ho2 (below_size (by repeat (first | (with_reducible first | exact HB.out | apply below_alloc | apply pw_below_drewN | apply below_drew1 | refine below_set ?_ GE323.out | refine below_set ?_ GE324.out) | exact HB.out)))); have n3_ := Aside0.mk (blk_below (g := gb323) (o := .cells #[.slice A0_0 l0_0.length c0_0, .slice A0_1 l0_1.length c0_1, .slice A0_2 l0_2.length c0_2, .int .i64 a0_3] 26 (0, 0)) (by (with_reducible repeat (first | refine blk_drewN ?_ _ | refine blk_drew ?_ | refine blk_alloc ?_ _)); exact BK323.out) hb); have n4_ := Aside0.mk (blk_below (g := gb324) (o := .cells #[.int .i64 a3_0, .int .i64 a3_1, .int .i64 a3_2] 37 (0, 0)) (by (with_reducible repeat (first | refine blk_drewN ?_ _ | refine blk_drew ?_ | refine blk_alloc ?_ _)); exact BK324.out) hb); have n5_ := Aside0.mk (below_step (by repeat (first | (with_reducible first | exact HB.out | apply below_alloc | apply pw_below_drewN | apply below_drew1 | refine below_set ?_ GE323.out | refine below_set ?_ GE324.out) | exact HB.out)) hb); clear BK323; clear BK324; clear HB; have HO327 := n0_; have HO330 := n1_; have HO333 := n2_; have BK323 := n3_; have BK324 := n4_; have HB := n5_; clear n0_ n1_ n2_ n3_ n4_ n5_; (try clear hb); (try clear hb2); (try clear hk); (try clear hi); (try clear ho0); (try clear ho1); (try clear ho2); obtain ⟨Ao14, co14, eo14⟩ := Kd.S_slice HO327.out; subst eo14; have hcz15_0 : w13.cell? ⟨gb323, 0, none⟩ = some (.slice A0_0 l0_0.length c0_0) := (blk_cell BK323.out 0).trans rfl; have hcz15_1 : w13.cell? ⟨gb323, 1, none⟩ = some (.slice A0_1 l0_1.length c0_1) := (blk_cell BK323.out 1).trans rfl; have hcz15_2 : w13.cell? ⟨gb323, 2, none⟩ = some (.slice A0_2 l0_2.length c0_2) := (blk_cell BK323.out 2).trans rfl; have hcz15_3 : w13.cell? ⟨gb323, 3, none⟩ = some (.int .i64 a0_3) := (blk_cell BK323.out 3).trans rfl; have hfz15_0 := blk_frozen BK323.out 0; have hfz15_1 := blk_frozen BK323.out 1; have hfz15_2 := blk_frozen BK323.out 2; have hfz15_3 := blk_frozen BK323.out 3; obtain ⟨Ao16, co16, eo16⟩ := Kd.R_slice HO330.out; subst eo16; obtain ⟨Ao17, co17, eo17⟩ := Kd.R_slice HO333.out; subst eo17; have hcz18_0 : w13.cell? ⟨gb324, 0, none⟩ = some (.int .i64 a3_0) := (blk_cell BK324.out 0).trans rfl; have hcz18_1 : w13.cell? ⟨gb324, 1, none⟩ = some (.int .i64 a3_1) := (blk_cell BK324.out 1).trans rfl; have hcz18_2 : w13.cell? ⟨gb324, 2, none⟩ = some (.int .i64 a3_2) := (blk_cell BK324.out 2).trans rfl; have hfz18_0 := blk_frozen BK324.out 0; have hfz18_1 := blk_frozen BK324.out 1; have hfz18_2 := blk_frozen BK324.out 2) | ((with_reducible refine gate_callee (f := 15) rfl ?_); refine goesL_ (some 17) rfl rfl Try.func15 (by kernel_rfl) rfl #[.agg #[.int .i64 a3_0, .int .i64 a3_1, .int .i64 a3_2]] rfl (by (try simp only [List.map_toArray, List.map_cons, List.map_nil]); first | done | rfl | (simp only [List.length_drop, List.length_take]; rfl)) ?_; (with_reducible refine (selvageref13_Instr.calls k a3_0 a3_1 a3_2 t335 _ A6.out).mono ?_); rintro e w19 ⟨rfl, hb⟩; refine ⟨_, rfl, ?_⟩; have n0_ := Aside0.mk (Kd.S_below (by (with_reducible repeat (first | apply Kd.S_alloc | apply Kd.S_drewN | apply Kd.S_drew)); exact (Kd.S_mono (Kd.S_far (p := ⟨gb323, 3, none⟩) (Kd.S_far (p := ⟨gb323, 2, none⟩) (Kd.S_far (p := ⟨gb323, 1, none⟩) (Kd.S_far (p := ⟨gb323, 0, none⟩) (Kd.S_types HO327.out BK323.out (by decide)) (fun _ hk => hk.2) (.slice Ao14 t325.length co14)) (fun _ hk => hk.2) (.slice Ao16 t328.length co16)) (fun _ hk => hk.2) (.slice Ao17 t331.length co17)) (fun _ hk => hk.2) (.int .i64 t334)) (fun _ h_ => h_.1))) hb); have n1_ := Aside0.mk (Kd.R_below (by (with_reducible repeat (first | apply Kd.R_alloc | apply Kd.R_drewN | apply Kd.R_drew)); exact (Kd.R_mono (Kd.R_far (p := ⟨gb323, 3, none⟩) (Kd.R_far (p := ⟨gb323, 2, none⟩) (Kd.R_far (p := ⟨gb323, 1, none⟩) (Kd.R_far (p := ⟨gb323, 0, none⟩) (Kd.R_types HO330.out BK323.out (by decide)) (fun _ hk => hk.2) (.slice Ao14 t325.length co14)) (fun _ hk => hk.2) (.slice Ao16 t328.length co16)) (fun _ hk => hk.2) (.slice Ao17 t331.length co17)) (fun _ hk => hk.2) (.int .i64 t334)) (fun _ h_ => h_.1))) hb); have n2_ := Aside0.mk (Kd.R_below (by (with_reducible repeat (first | apply Kd.R_alloc | apply Kd.R_drewN | apply Kd.R_drew)); exact (Kd.R_mono (Kd.R_far (p := ⟨gb323, 3, none⟩) (Kd.R_far (p := ⟨gb323, 2, none⟩) (Kd.R_far (p := ⟨gb323, 1, none⟩) (Kd.R_far (p := ⟨gb323, 0, none⟩) (Kd.R_types HO333.out BK323.out (by decide)) (fun _ hk => hk.2) (.slice Ao14 t325.length co14)) (fun _ hk => hk.2) (.slice Ao16 t328.length co16)) (fun _ hk => hk.2) (.slice Ao17 t331.length co17)) (fun _ hk => hk.2) (.int .i64 t334)) (fun _ h_ => h_.1))) hb); have n3_ := Aside0.mk (blk_below (g := gb323) (o := .cells #[.slice Ao14 t325.length co14, .slice Ao16 t328.length co16, .slice Ao17 t331.length co17, .int .i64 t334] 26 (0, 0)) (by (with_reducible repeat (first | refine blk_drewN ?_ _ | refine blk_drew ?_ | refine blk_alloc ?_ _)); refine blk_put (cs := #[.slice Ao14 t325.length co14, .slice Ao16 t328.length co16, .slice Ao17 t331.length co17, .int .i64 a0_3]) ?_ 3 _ rfl; (with_reducible repeat (first | refine blk_drewN ?_ _ | refine blk_drew ?_ | refine blk_alloc ?_ _)); refine blk_put (cs := #[.slice Ao14 t325.length co14, .slice Ao16 t328.length co16, .slice A0_2 l0_2.length c0_2, .int .i64 a0_3]) ?_ 2 _ rfl; (with_reducible repeat (first | refine blk_drewN ?_ _ | refine blk_drew ?_ | refine blk_alloc ?_ _)); refine blk_put (cs := #[.slice Ao14 t325.length co14, .slice A0_1 l0_1.length c0_1, .slice A0_2 l0_2.length c0_2, .int .i64 a0_3]) ?_ 1 _ rfl; (with_reducible repeat (first | refine blk_drewN ?_ _ | refine blk_drew ?_ | refine blk_alloc ?_ _)); refine blk_put (cs := #[.slice A0_0 l0_0.length c0_0, .slice A0_1 l0_1.length c0_1, .slice A0_2 l0_2.length c0_2, .int .i64 a0_3]) ?_ 0 _ rfl; (with_reducible repeat (first | refine blk_drewN ?_ _ | refine blk_drew ?_ | refine blk_alloc ?_ _)); exact BK323.out) hb); have n4_ := Aside0.mk (blk_below (g := gb324) (o := .cells #[.int .i64 a3_0, .int .i64 a3_1, .int .i64 a3_2] 37 (0, 0)) (by (with_reducible repeat (first | refine blk_drewN ?_ _ | refine blk_drew ?_ | refine blk_alloc ?_ _)); refine blk_far ?_ NB324_323.out _; (with_reducible repeat (first | refine blk_drewN ?_ _ | refine blk_drew ?_ | refine blk_alloc ?_ _)); refine blk_far ?_ NB324_323.out _; (with_reducible repeat (first | refine blk_drewN ?_ _ | refine blk_drew ?_ | refine blk_alloc ?_ _)); refine blk_far ?_ NB324_323.out _; (with_reducible repeat (first | refine blk_drewN ?_ _ | refine blk_drew ?_ | refine blk_alloc ?_ _)); refine blk_far ?_ NB324_323.out _; (with_reducible repeat (first | refine blk_drewN ?_ _ | refine blk_drew ?_ | refine blk_alloc ?_ _)); exact BK324.out) hb); have n5_ := Aside0.mk (below_step (by repeat (first | (with_reducible first | exact HB.out | apply below_alloc | apply pw_below_drewN | apply below_drew1 | refine below_set ?_ GE323.out | refine below_set ?_ GE324.out) | exact HB.out)) hb); clear HO327; clear HO330; clear HO333; clear BK323; clear BK324; clear HB; have HO327 := n0_; have HO330 := n1_; have HO333 := n2_; have BK323 := n3_; have BK324 := n4_; have HB := n5_; clear n0_ n1_ n2_ n3_ n4_ n5_; (try clear hb); (try clear hb2); (try clear hk); (try clear hi); have hcz20_0 : w19.cell? ⟨gb323, 0, none⟩ = some (.slice Ao14 t325.length co14) := (blk_cell BK323.out 0).trans rfl; have hcz20_1 : w19.cell? ⟨gb323, 1, none⟩ = some (.slice Ao16 t328.length co16) := (blk_cell BK323.out 1).trans rfl; have hcz20_2 : w19.cell? ⟨gb323, 2, none⟩ = some (.slice Ao17 t331.length co17) := (blk_cell BK323.out 2).trans rfl; have hcz20_3 : w19.cell? ⟨gb323, 3, none⟩ = some (.int .i64 t334) := (blk_cell BK323.out 3).trans rfl; have hfz20_0 := blk_frozen BK323.out 0; have hfz20_1 := blk_frozen BK323.out 1; have hfz20_2 := blk_frozen BK323.out 2; have hfz20_3 := blk_frozen BK323.out 3) | ((with_reducible refine gate_callee (f := 9) rfl ?_); refine goesL_ (some 20) rfl rfl Try.func9 (by kernel_rfl) rfl #[.agg #[.slice Ao14 t325.length co14, .slice Ao16 t328.length co16, .slice Ao17 t331.length co17, .int .i64 t334], .int .i64 a1] rfl (by (try simp only [List.map_toArray, List.map_cons, List.map_nil]); first | done | rfl | (simp only [List.length_drop, List.length_take]; rfl)) ?_; (with_reducible refine (verify_Depths.calls _ _ t325 _ _ t328 _ _ t331 t334 a1 t336 _ ?side1 ?side2 ?side3 ?side4 ?side5 ?side6 A7.out).mono ?_); (case side1 => repeat (first | exact (Kd.S_reads' HO327.out).2.2 | (with_reducible refine Kd.C_alloc ?_ _) | (with_reducible refine Kd.C_drewN ?_ _) | (with_reducible refine Kd.C_drew ?_))); (case side2 => exact (Kd.S_reads' HO327.out).2.1); (case side3 => repeat (first | exact (Kd.R_reads' HO330.out).2.2 | (with_reducible refine Kd.C_alloc ?_ _) | (with_reducible refine Kd.C_drewN ?_ _) | (with_reducible refine Kd.C_drew ?_))); (case side4 => exact (Kd.R_reads' HO330.out).2.1); (case side5 => repeat (first | exact (Kd.R_reads' HO333.out).2.2 | (with_reducible refine Kd.C_alloc ?_ _) | (with_reducible refine Kd.C_drewN ?_ _) | (with_reducible refine Kd.C_drew ?_))); (case side6 => exact (Kd.R_reads' HO333.out).2.1); rintro e w21 ⟨v337, rfl, ho0, hb⟩; refine ⟨_, rfl, ?_⟩; have n0_ := Aside0.mk (Kd.S_below (by (with_reducible repeat (first | apply Kd.S_alloc | apply Kd.S_drewN | apply Kd.S_drew)); exact HO327.out) hb); have n1_ := Aside0.mk (Kd.R_elder' (by (with_reducible repeat (first | apply Kd.R_alloc | apply Kd.R_drewN | apply Kd.R_drew)); exact HO330.out) (Kd.R_base ho0) hb); have n2_ := Aside0.mk (Kd.R_below (by (with_reducible repeat (first | apply Kd.R_alloc | apply Kd.R_drewN | apply Kd.R_drew)); exact HO333.out) hb); have n3_ := Aside0.mk (Kd.R_lower (Kd.R_new' ho0 (Kd.R_lt (by (with_reducible repeat (first | apply Kd.R_alloc | apply Kd.R_drewN | apply Kd.R_drew)); exact HO330.out))) (below_size (by repeat (first | (with_reducible first | exact HB.out | apply below_alloc | apply pw_below_drewN | apply below_drew1 | refine below_set ?_ GE323.out | refine below_set ?_ GE324.out) | exact HB.out)))); have n4_ := Aside0.mk (blk_below (g := gb323) (o := .cells #[.slice Ao14 t325.length co14, .slice Ao16 t328.length co16, .slice Ao17 t331.length co17, .int .i64 t334] 26 (0, 0)) (by (with_reducible repeat (first | refine blk_drewN ?_ _ | refine blk_drew ?_ | refine blk_alloc ?_ _)); exact BK323.out) hb); have n5_ := Aside0.mk (blk_below (g := gb324) (o := .cells #[.int .i64 a3_0, .int .i64 a3_1, .int .i64 a3_2] 37 (0, 0)) (by (with_reducible repeat (first | refine blk_drewN ?_ _ | refine blk_drew ?_ | refine blk_alloc ?_ _)); exact BK324.out) hb); have n6_ := Aside0.mk (below_step (by repeat (first | (with_reducible first | exact HB.out | apply below_alloc | apply pw_below_drewN | apply below_drew1 | refine below_set ?_ GE323.out | refine below_set ?_ GE324.out) | exact HB.out)) hb); clear HO327; clear HO330; clear HO333; clear BK323; clear BK324; clear HB; have HO327 := n0_; have HO330 := n1_; have HO333 := n2_; have HO338 := n3_; have BK323 := n4_; have BK324 := n5_; have HB := n6_; clear n0_ n1_ n2_ n3_ n4_ n5_ n6_; (try clear hb); (try clear hb2); (try clear hk); (try clear hi); (try clear ho0)))
 (try simp only [Act.put, List.setIfInBounds_toArray, List.set_cons_zero, List.set_cons_succ])
 go_cut [27] (fun v27 wc => ∃ (kq : Nat) (x27_7 : Bool), v27 = .bool x27_7 ∧ Aside0 (selvagelaw14_VerifyBehind.j0 kq a1 a2 t336 x27_7 t325 t328 t331 t334 a3_0 a3_1 a3_2 = some r) ∧ Aside0 (kq ≤ k) ∧ Aside0 (Kd.R (Kd.int .i64) 3 wc w.heap.size (fun k_ => some k_ ≠ ((.slice Ao16 t328.length co16) : Value).ownBlock) v337 t336) ∧ Aside0 (Kd.S k32 32 wc w.heap.size (fun k_ => k_ ≠ gb324) (.slice Ao14 t325.length co14) t325) ∧ Aside0 (Kd.R (Kd.int .i64) 3 wc w.heap.size (fun k_ => some k_ ≠ (v337 : Value).ownBlock) (.slice Ao16 t328.length co16) t328) ∧ Aside0 (Kd.R Kd.string 9 wc w.heap.size (fun _ => True) (.slice Ao17 t331.length co17) t331) ∧ Aside0 (wc.heap[gb323]? = some (.cells #[(.slice Ao14 t325.length co14), (.slice Ao16 t328.length co16), (.slice Ao17 t331.length co17), .int .i64 t334] 26 (0, 0))) ∧ Aside0 (wc.heap[gb324]? = some (.cells #[.int .i64 a3_0, .int .i64 a3_1, .int .i64 a3_2] 37 (0, 0))) ∧ Aside0 (Below w.heap.size w wc))
 case first =>
  have H := HC8.out
  clear HC8
  by_cases c22 : t335 = true
  ·subst c22
   have H1 : (selvagelaw14_VerifyBehind.j0 k a1 a2 t336 ((t336.length : Int) == 0) t325 t328 t331 t334 a3_0 a3_1 a3_2) = some r := by rw [if_pos rfl] at H; exact H
   clear H
   have H := H1
   clear H1
   have H' := Aside0.mk H
   clear H
   obtain ⟨Ao23, co23, eo23⟩ := Kd.R_slice HO338.out
   subst eo23
   go_wp2
   go_meet
   case rel => exact ⟨_, (((t336.length : Int) == 0)), (by first | rfl | (simp; done) | (simp [*]; done)), H', ⟨by first | omega | exact Nat.le_refl _⟩, ⟨by (with_reducible repeat (first | apply Kd.R_alloc | apply Kd.R_drewN | apply Kd.R_drew)); exact Kd.R_mono HO338.out (fun _ hk => hk.2)⟩, ⟨by (with_reducible repeat (first | apply Kd.S_alloc | apply Kd.S_drewN | apply Kd.S_drew)); exact Kd.S_mono HO327.out (fun _ hk => hk.2)⟩, ⟨by (with_reducible repeat (first | apply Kd.R_alloc | apply Kd.R_drewN | apply Kd.R_drew)); exact Kd.R_mono HO330.out (fun _ hk => hk.2)⟩, ⟨by (with_reducible repeat (first | apply Kd.R_alloc | apply Kd.R_drewN | apply Kd.R_drew)); exact HO333.out⟩, ⟨by (with_reducible repeat (first | refine blk_drewN ?_ _ | refine blk_drew ?_ | refine blk_alloc ?_ _)); exact BK323.out⟩, ⟨by (with_reducible repeat (first | refine blk_drewN ?_ _ | refine blk_drew ?_ | refine blk_alloc ?_ _)); exact BK324.out⟩, ⟨by repeat (first | (with_reducible first | exact HB.out | apply below_alloc | apply pw_below_drewN | apply below_drew1 | refine below_set ?_ GE323.out | refine below_set ?_ GE324.out) | exact HB.out)⟩⟩
  replace c22 := Bool.eq_false_iff.mpr c22
  subst c22
  have H1 : (selvagelaw14_VerifyBehind.j0 k a1 a2 t336 true t325 t328 t331 t334 a3_0 a3_1 a3_2) = some r := by rw [if_neg (show ¬ (false = true) by decide)] at H; exact H
  clear H
  have H := H1
  clear H1
  have H' := Aside0.mk H
  clear H
  go_wp2
  go_meet
  case rel => exact ⟨_, (true), (by first | rfl | (simp; done) | (simp [*]; done)), H', ⟨by first | omega | exact Nat.le_refl _⟩, ⟨by (with_reducible repeat (first | apply Kd.R_alloc | apply Kd.R_drewN | apply Kd.R_drew)); exact Kd.R_mono HO338.out (fun _ hk => hk.2)⟩, ⟨by (with_reducible repeat (first | apply Kd.S_alloc | apply Kd.S_drewN | apply Kd.S_drew)); exact Kd.S_mono HO327.out (fun _ hk => hk.2)⟩, ⟨by (with_reducible repeat (first | apply Kd.R_alloc | apply Kd.R_drewN | apply Kd.R_drew)); exact Kd.R_mono HO330.out (fun _ hk => hk.2)⟩, ⟨by (with_reducible repeat (first | apply Kd.R_alloc | apply Kd.R_drewN | apply Kd.R_drew)); exact HO333.out⟩, ⟨by (with_reducible repeat (first | refine blk_drewN ?_ _ | refine blk_drew ?_ | refine blk_alloc ?_ _)); exact BK323.out⟩, ⟨by (with_reducible repeat (first | refine blk_drewN ?_ _ | refine blk_drew ?_ | refine blk_alloc ?_ _)); exact BK324.out⟩, ⟨by repeat (first | (with_reducible first | exact HB.out | apply below_alloc | apply pw_below_drewN | apply below_drew1 | refine below_set ?_ GE323.out | refine below_set ?_ GE324.out) | exact HB.out)⟩⟩
 case rest =>
  clear HC8
  try clear c1
  try clear c2
  try clear p2
  try clear c7
  try clear c8
  try clear c9
  try clear c11
  try clear c15
  try clear c22
  try clear hcz12_0
  try clear hcz12_1
  try clear hcz12_2
  try clear hcz12_3
  try clear hcz15_0
  try clear hcz15_1
  try clear hcz15_2
  try clear hcz15_3
  try clear hcz18_0
  try clear hcz18_1
  try clear hcz18_2
  try clear hcz20_0
  try clear hcz20_1
  try clear hcz20_2
  try clear hcz20_3
  try clear hfz12_0
  try clear hfz12_1
  try clear hfz12_2
  try clear hfz12_3
  try clear hfz15_0
  try clear hfz15_1
  try clear hfz15_2
  try clear hfz15_3
  try clear hfz18_0
  try clear hfz18_1
  try clear hfz18_2
  try clear hfz20_0
  try clear hfz20_1
  try clear hfz20_2
  try clear hfz20_3
  obtain ⟨kq, x27_7, rfl, HA, HJ7, HO_10, HO_324000, HO_324001, HO_324002, BK323, BK324, HB⟩ := hcut
  cases kq with
  | zero => exact absurd HA.out (by simp [selvagelaw14_VerifyBehind.j0])
  | succ kj7 =>
   have H := HA.out
   clear HA
   simp only [selvagelaw14_VerifyBehind.j0] at H
   by_cases c24 : x27_7 = true
   ·subst c24
    have H1 : ((selvagelaw14_lives.f).bind fun t339 => (some t339)) = some r := by rw [if_pos rfl] at H; exact H
    clear H
    have H := H1
    clear H1
    replace H := Option.bind_eq_some_iff.mp H
    obtain ⟨t339, A250, H⟩ := H
    replace H : (some t339) = some r := H
    have A25 := Aside0.mk A250
    clear A250
    obtain rfl := Option.some.inj H
    go_wp2_with (first | ((with_reducible refine gate_callee (f := 10) rfl ?_); refine goesL_ (some 28) rfl rfl Try.func10 (by kernel_rfl) rfl #[] rfl (by (try simp only [List.map_toArray, List.map_cons, List.map_nil]); first | done | rfl | (simp only [List.length_drop, List.length_take]; rfl)) ?_; (with_reducible refine (selvagelaw14_lives.calls  t339 _ A25.out).mono ?_); rintro e w26 ⟨rfl, hb⟩; refine ⟨_, rfl, ?_⟩; have n0_ := Aside0.mk (Kd.R_below (by (with_reducible repeat (first | apply Kd.R_alloc | apply Kd.R_drewN | apply Kd.R_drew)); exact HO_10.out) hb); have n1_ := Aside0.mk (Kd.S_below (by (with_reducible repeat (first | apply Kd.S_alloc | apply Kd.S_drewN | apply Kd.S_drew)); exact HO_324000.out) hb); have n2_ := Aside0.mk (Kd.R_below (by (with_reducible repeat (first | apply Kd.R_alloc | apply Kd.R_drewN | apply Kd.R_drew)); exact HO_324001.out) hb); have n3_ := Aside0.mk (Kd.R_below (by (with_reducible repeat (first | apply Kd.R_alloc | apply Kd.R_drewN | apply Kd.R_drew)); exact HO_324002.out) hb); have n4_ := Aside0.mk (blk_below (g := gb323) (o := .cells #[.slice Ao14 t325.length co14, .slice Ao16 t328.length co16, .slice Ao17 t331.length co17, .int .i64 t334] 26 (0, 0)) (by (with_reducible repeat (first | refine blk_drewN ?_ _ | refine blk_drew ?_ | refine blk_alloc ?_ _)); exact BK323.out) hb); have n5_ := Aside0.mk (blk_below (g := gb324) (o := .cells #[.int .i64 a3_0, .int .i64 a3_1, .int .i64 a3_2] 37 (0, 0)) (by (with_reducible repeat (first | refine blk_drewN ?_ _ | refine blk_drew ?_ | refine blk_alloc ?_ _)); exact BK324.out) hb); have n6_ := Aside0.mk (below_step (by repeat (first | (with_reducible first | exact HB.out | apply below_alloc | apply pw_below_drewN | apply below_drew1 | refine below_set ?_ GE323.out | refine below_set ?_ GE324.out) | exact HB.out)) hb); clear HO_10; clear HO_324000; clear HO_324001; clear HO_324002; clear BK323; clear BK324; clear HB; have HO_10 := n0_; have HO_324000 := n1_; have HO_324001 := n2_; have HO_324002 := n3_; have BK323 := n4_; have BK324 := n5_; have HB := n6_; clear n0_ n1_ n2_ n3_ n4_ n5_ n6_; (try clear hb); (try clear hb2); (try clear hk); (try clear hi)))
    go_ret
    exact ⟨by first | rfl | (simp [errW_none, errW_some] <;> rfl) | (simp [*, errW_none, errW_some] <;> rfl), by repeat (first | (with_reducible first | exact HB.out | apply below_alloc | apply pw_below_drewN | apply below_drew1 | refine below_set ?_ GE323.out | refine below_set ?_ GE324.out) | exact HB.out)⟩
   replace c24 := Bool.eq_false_iff.mpr c24
   subst c24
   have H1 : (if a2 < 0 then (selvagelaw14_VerifyBehind.j1 kj7 a1 (wrap64 (-(wrap64 (a2 + 1)))) t336 t325 t328 t331 t334 a3_0 a3_1 a3_2) else (selvagelaw14_VerifyBehind.j1 kj7 a1 a2 t336 t325 t328 t331 t334 a3_0 a3_1 a3_2)) = some r := by rw [if_neg (show ¬ (false = true) by decide)] at H; exact H
   clear H
   have H := H1
   clear H1
   have HC27 := Aside0.mk H
   clear H
   go_upto_if 30 with (fail)
   go_cut [2] (fun v2 wc => ∃ (kq : Nat) (x2_26 : Int), v2 = .int .i64 x2_26 ∧ Aside0 (selvagelaw14_VerifyBehind.j1 kq a1 x2_26 t336 t325 t328 t331 t334 a3_0 a3_1 a3_2 = some r) ∧ Aside0 (kq ≤ kj7) ∧ Aside0 (Kd.R (Kd.int .i64) 3 wc w.heap.size (fun k_ => some k_ ≠ ((.slice Ao16 t328.length co16) : Value).ownBlock) v337 t336) ∧ Aside0 (Kd.S k32 32 wc w.heap.size (fun k_ => k_ ≠ gb324) (.slice Ao14 t325.length co14) t325) ∧ Aside0 (Kd.R (Kd.int .i64) 3 wc w.heap.size (fun k_ => some k_ ≠ (v337 : Value).ownBlock) (.slice Ao16 t328.length co16) t328) ∧ Aside0 (Kd.R Kd.string 9 wc w.heap.size (fun _ => True) (.slice Ao17 t331.length co17) t331) ∧ Aside0 (wc.heap[gb323]? = some (.cells #[(.slice Ao14 t325.length co14), (.slice Ao16 t328.length co16), (.slice Ao17 t331.length co17), .int .i64 t334] 26 (0, 0))) ∧ Aside0 (wc.heap[gb324]? = some (.cells #[.int .i64 a3_0, .int .i64 a3_1, .int .i64 a3_2] 37 (0, 0))) ∧ Aside0 (Below w.heap.size w wc))
   case first =>
    have H := HC27.out
    clear HC27
    by_cases c28 : a2 < 0
    ·rw [if_pos c28] at H
     have c28b0 : decide (a2 < 0) = true := decide_eq_true c28
     clear c28
     (first | rw [c28b0] | (simp only [i64_w, i32_w]; rw [c28b0]) | skip)
     have H' := Aside0.mk H
     clear H
     go_wp2
     go_meet
     case rel => exact ⟨_, (wrap64 (-(wrap64 (a2 + 1)))), (by first | rfl | (simp; done) | (simp [*]; done)), H', ⟨by have := HJ7.out; first | omega | exact Nat.le_refl _⟩, ⟨by (with_reducible repeat (first | apply Kd.R_alloc | apply Kd.R_drewN | apply Kd.R_drew)); exact HO_10.out⟩, ⟨by (with_reducible repeat (first | apply Kd.S_alloc | apply Kd.S_drewN | apply Kd.S_drew)); exact HO_324000.out⟩, ⟨by (with_reducible repeat (first | apply Kd.R_alloc | apply Kd.R_drewN | apply Kd.R_drew)); exact HO_324001.out⟩, ⟨by (with_reducible repeat (first | apply Kd.R_alloc | apply Kd.R_drewN | apply Kd.R_drew)); exact HO_324002.out⟩, ⟨by (with_reducible repeat (first | refine blk_drewN ?_ _ | refine blk_drew ?_ | refine blk_alloc ?_ _)); exact BK323.out⟩, ⟨by (with_reducible repeat (first | refine blk_drewN ?_ _ | refine blk_drew ?_ | refine blk_alloc ?_ _)); exact BK324.out⟩, ⟨by repeat (first | (with_reducible first | exact HB.out | apply below_alloc | apply pw_below_drewN | apply below_drew1 | refine below_set ?_ GE323.out | refine below_set ?_ GE324.out) | exact HB.out)⟩⟩
    rw [if_neg c28] at H
    have c28b0 : decide (a2 < 0) = false := decide_eq_false c28
    clear c28
    (first | rw [c28b0] | (simp only [i64_w, i32_w]; rw [c28b0]) | skip)
    have H' := Aside0.mk H
    clear H
    go_wp2
    go_meet
    case rel => exact ⟨_, (a2), (by first | rfl | (simp; done) | (simp [*]; done)), H', ⟨by have := HJ7.out; first | omega | exact Nat.le_refl _⟩, ⟨by (with_reducible repeat (first | apply Kd.R_alloc | apply Kd.R_drewN | apply Kd.R_drew)); exact HO_10.out⟩, ⟨by (with_reducible repeat (first | apply Kd.S_alloc | apply Kd.S_drewN | apply Kd.S_drew)); exact HO_324000.out⟩, ⟨by (with_reducible repeat (first | apply Kd.R_alloc | apply Kd.R_drewN | apply Kd.R_drew)); exact HO_324001.out⟩, ⟨by (with_reducible repeat (first | apply Kd.R_alloc | apply Kd.R_drewN | apply Kd.R_drew)); exact HO_324002.out⟩, ⟨by (with_reducible repeat (first | refine blk_drewN ?_ _ | refine blk_drew ?_ | refine blk_alloc ?_ _)); exact BK323.out⟩, ⟨by (with_reducible repeat (first | refine blk_drewN ?_ _ | refine blk_drew ?_ | refine blk_alloc ?_ _)); exact BK324.out⟩, ⟨by repeat (first | (with_reducible first | exact HB.out | apply below_alloc | apply pw_below_drewN | apply below_drew1 | refine below_set ?_ GE323.out | refine below_set ?_ GE324.out) | exact HB.out)⟩⟩
   case rest =>
    clear HC27
    try clear c1
    try clear c2
    try clear p2
    try clear p6
    try clear c7
    try clear c8
    try clear c9
    try clear c10
    try clear c11
    try clear c15
    try clear c22
    try clear c24
    try clear c28
    try clear c28b0
    try clear hcz12_0
    try clear hcz12_1
    try clear hcz12_2
    try clear hcz12_3
    try clear hcz15_0
    try clear hcz15_1
    try clear hcz15_2
    try clear hcz15_3
    try clear hcz18_0
    try clear hcz18_1
    try clear hcz18_2
    try clear hcz20_0
    try clear hcz20_1
    try clear hcz20_2
    try clear hcz20_3
    try clear hfz12_0
    try clear hfz12_1
    try clear hfz12_2
    try clear hfz12_3
    try clear hfz15_0
    try clear hfz15_1
    try clear hfz15_2
    try clear hfz15_3
    try clear hfz18_0
    try clear hfz18_1
    try clear hfz18_2
    try clear hfz20_0
    try clear hfz20_1
    try clear hfz20_2
    try clear hfz20_3
    try clear p2
    obtain ⟨kq, x2_26, rfl, HA, HJ26, HO_10, HO_324000, HO_324001, HO_324002, BK323, BK324, HB⟩ := hcut
    cases kq with
    | zero => exact absurd HA.out (by simp [selvagelaw14_VerifyBehind.j1])
    | succ kj26 =>
     have H := HA.out
     clear HA
     simp only [selvagelaw14_VerifyBehind.j1] at H
     by_cases c29 : (t336.length : Int) = 0
     ·rw [if_pos c29] at H
      exact absurd H (by simp)
     rw [if_neg c29] at H
     have c29b0 : ((t336.length : Int) == 0) = false := beq_eq_false_iff_ne.mpr c29
     have c29b1 : ((t336.length : Int) != 0) = true := bne_iff_ne.mpr c29
     have c29b2 : ¬ (t336 = []) := fun h_ => c29 (by rw [h_]; rfl)
     obtain ⟨ji30, hji30⟩ : ∃ j_ : Int, (Int.tmod x2_26 (t336.length : Int)) = j_ := ⟨_, rfl⟩
     replace H : (if 0 ≤ (ji30) then (if (ji30) < (t336.length : Int) then (if (rd t336 (ji30)) ≥ 0 then ((selvagelaw14_lives.f).bind fun t341 => (some t341)) else ((verify_Code.f t325 t328 t331 t334).bind fun t342 => (if 0 ≤ a1 then (if a1 < (t325.length : Int) then (if (ji30) < (((rd_T32 t325 a1).f3).length : Int) then ((some (t325.set (a1 : Int).toNat (⟨(rd_T32 t325 a1).f0, (rd_T32 t325 a1).f1, (rd_T32 t325 a1).f2, (((rd_T32 t325 a1).f3).set ((ji30) : Int).toNat (⟨a3_0, a3_1, a3_2⟩ : S37))⟩ : S32) : List (S32))).bind fun y346 => ((verify_Depths.f y346 t328 t331 t334 a1).bind fun t347 => ((selvageref02_SameInts.f kj26 t347 t336).bind fun t350 => (if t350 = true then ((verify_Code.f y346 t328 t331 t334).bind fun t351 => (if t351 = t342 then ((selvagelaw14_lives.f).bind fun t352 => (some t352)) else (some false))) else (some false))))) else (none)) else (none)) else (none)))) else (none)) else (none)) = some r := by first | (rw [hji30] at H; exact H) | (simp only [hji30] at H ⊢; exact H)
     by_cases c31 : 0 ≤ (ji30)
     ·rw [if_pos c31] at H
      have c31b0 : decide (0 ≤ (ji30)) = true := decide_eq_true c31
      clear c31
      by_cases c32 : (ji30) < (t336.length : Int)
      ·rw [if_pos c32] at H
       have c32b0 : decide ((ji30) < (t336.length : Int)) = true := decide_eq_true c32
       clear c32
       by_cases c33 : (rd t336 (ji30)) ≥ 0
       ·rw [if_pos c33] at H
        have c33b0 : decide (0 ≤ (rd t336 (ji30))) = true := decide_eq_true c33
        clear c33
        replace H := Option.bind_eq_some_iff.mp H
        obtain ⟨t341, A340, H⟩ := H
        replace H : (some t341) = some r := H
        have A34 := Aside0.mk A340
        clear A340
        obtain rfl := Option.some.inj H
        obtain ⟨Ao35, co35, eo35⟩ := Kd.R_slice HO_10.out
        subst eo35
        have p340 : 0 ≤ ((ji30) : Int) := of_decide_eq_true (by first | (with_reducible assumption) | assumption)
        have q340 : (ji30) < (t336.length : Int) := of_decide_eq_true (by first | (with_reducible assumption) | assumption)
        obtain ⟨ad340, e340, hx340_0⟩ := Kd.at_int (Kd.R_reads' HO_10.out).2.2 (ji30) p340 q340
        cases e340
        replace p340 := eq_true p340
        replace q340 := eq_true q340
        go_wp2_with (first | ((with_reducible refine gate_callee (f := 10) rfl ?_); refine goesL_ (some 43) rfl rfl Try.func10 (by kernel_rfl) rfl #[] rfl (by (try simp only [List.map_toArray, List.map_cons, List.map_nil]); first | done | rfl | (simp only [List.length_drop, List.length_take]; rfl)) ?_; (with_reducible refine (selvagelaw14_lives.calls  t341 _ A34.out).mono ?_); rintro e w36 ⟨rfl, hb⟩; refine ⟨_, rfl, ?_⟩; have n0_ := Aside0.mk (Kd.R_below (by (with_reducible repeat (first | apply Kd.R_alloc | apply Kd.R_drewN | apply Kd.R_drew)); exact HO_10.out) hb); have n1_ := Aside0.mk (Kd.S_below (by (with_reducible repeat (first | apply Kd.S_alloc | apply Kd.S_drewN | apply Kd.S_drew)); exact HO_324000.out) hb); have n2_ := Aside0.mk (Kd.R_below (by (with_reducible repeat (first | apply Kd.R_alloc | apply Kd.R_drewN | apply Kd.R_drew)); exact HO_324001.out) hb); have n3_ := Aside0.mk (Kd.R_below (by (with_reducible repeat (first | apply Kd.R_alloc | apply Kd.R_drewN | apply Kd.R_drew)); exact HO_324002.out) hb); have n4_ := Aside0.mk (blk_below (g := gb323) (o := .cells #[.slice Ao14 t325.length co14, .slice Ao16 t328.length co16, .slice Ao17 t331.length co17, .int .i64 t334] 26 (0, 0)) (by (with_reducible repeat (first | refine blk_drewN ?_ _ | refine blk_drew ?_ | refine blk_alloc ?_ _)); exact BK323.out) hb); have n5_ := Aside0.mk (blk_below (g := gb324) (o := .cells #[.int .i64 a3_0, .int .i64 a3_1, .int .i64 a3_2] 37 (0, 0)) (by (with_reducible repeat (first | refine blk_drewN ?_ _ | refine blk_drew ?_ | refine blk_alloc ?_ _)); exact BK324.out) hb); have n6_ := Aside0.mk (below_step (by repeat (first | (with_reducible first | exact HB.out | apply below_alloc | apply pw_below_drewN | apply below_drew1 | refine below_set ?_ GE323.out | refine below_set ?_ GE324.out) | exact HB.out)) hb); clear HO_10; clear HO_324000; clear HO_324001; clear HO_324002; clear BK323; clear BK324; clear HB; have HO_10 := n0_; have HO_324000 := n1_; have HO_324001 := n2_; have HO_324002 := n3_; have BK323 := n4_; have BK324 := n5_; have HB := n6_; clear n0_ n1_ n2_ n3_ n4_ n5_ n6_; (try clear hb); (try clear hb2); (try clear hk); (try clear hi)))
        go_ret
        exact ⟨by first | rfl | (simp [errW_none, errW_some] <;> rfl) | (simp only [← hji30]; first | rfl | (simp [errW_none, errW_some] <;> rfl)) | (simp [*, errW_none, errW_some] <;> rfl), by repeat (first | (with_reducible first | exact HB.out | apply below_alloc | apply pw_below_drewN | apply below_drew1 | refine below_set ?_ GE323.out | refine below_set ?_ GE324.out) | exact HB.out)⟩
       rw [if_neg c33] at H
       have c33b0 : decide (0 ≤ (rd t336 (ji30))) = false := decide_eq_false c33
       clear c33
       replace H := Option.bind_eq_some_iff.mp H
       obtain ⟨t342, A370, H⟩ := H
       replace H : (if 0 ≤ a1 then (if a1 < (t325.length : Int) then (if (ji30) < (((rd_T32 t325 a1).f3).length : Int) then ((some (t325.set (a1 : Int).toNat (⟨(rd_T32 t325 a1).f0, (rd_T32 t325 a1).f1, (rd_T32 t325 a1).f2, (((rd_T32 t325 a1).f3).set ((ji30) : Int).toNat (⟨a3_0, a3_1, a3_2⟩ : S37))⟩ : S32) : List (S32))).bind fun y346 => ((verify_Depths.f y346 t328 t331 t334 a1).bind fun t347 => ((selvageref02_SameInts.f kj26 t347 t336).bind fun t350 => (if t350 = true then ((verify_Code.f y346 t328 t331 t334).bind fun t351 => (if t351 = t342 then ((selvagelaw14_lives.f).bind fun t352 => (some t352)) else (some false))) else (some false))))) else (none)) else (none)) else (none)) = some r := H
       have A37 := Aside0.mk A370
       clear A370
       by_cases c38 : 0 ≤ a1
       ·rw [if_pos c38] at H
        have c38b0 : decide (0 ≤ a1) = true := decide_eq_true c38
        clear c38
        by_cases c39 : a1 < (t325.length : Int)
        ·rw [if_pos c39] at H
         have c39b0 : decide (a1 < (t325.length : Int)) = true := decide_eq_true c39
         clear c39
         by_cases c40 : (ji30) < (((rd_T32 t325 a1).f3).length : Int)
         ·rw [if_pos c40] at H
          have c40b0 : decide ((ji30) < (((rd_T32 t325 a1).f3).length : Int)) = true := decide_eq_true c40
          clear c40
          obtain ⟨y344, hy344⟩ : ∃ y_ : List (S37), y_ = (((rd_T32 t325 a1).f3).set ((ji30) : Int).toNat (⟨a3_0, a3_1, a3_2⟩ : S37)) := ⟨_, rfl⟩
          replace H : ((some (t325.set (a1 : Int).toNat (⟨(rd_T32 t325 a1).f0, (rd_T32 t325 a1).f1, (rd_T32 t325 a1).f2, y344⟩ : S32) : List (S32))).bind fun y346 => ((verify_Depths.f y346 t328 t331 t334 a1).bind fun t347 => ((selvageref02_SameInts.f kj26 t347 t336).bind fun t350 => (if t350 = true then ((verify_Code.f y346 t328 t331 t334).bind fun t351 => (if t351 = t342 then ((selvagelaw14_lives.f).bind fun t352 => (some t352)) else (some false))) else (some false))))) = some r := by first | (rw [hy344]; with_reducible exact H) | (have H2_ := (Option.bind_some _ _).symm.trans H; rw [hy344]; with_reducible exact H2_) | (have H2_ := (Option.bind_some _ _).symm.trans H; with_reducible exact H2_) | with_reducible exact H | (rw [hy344]; exact H) | exact H
          have Ny344 := Aside0.mk hy344
          clear hy344
          obtain ⟨y346, hy346⟩ : ∃ y_ : List (S32), y_ = (t325.set (a1 : Int).toNat (⟨(rd_T32 t325 a1).f0, (rd_T32 t325 a1).f1, (rd_T32 t325 a1).f2, y344⟩ : S32)) := ⟨_, rfl⟩
          replace H : ((verify_Depths.f y346 t328 t331 t334 a1).bind fun t347 => ((selvageref02_SameInts.f kj26 t347 t336).bind fun t350 => (if t350 = true then ((verify_Code.f y346 t328 t331 t334).bind fun t351 => (if t351 = t342 then ((selvagelaw14_lives.f).bind fun t352 => (some t352)) else (some false))) else (some false)))) = some r := by first | (rw [hy346]; with_reducible exact H) | (have H2_ := (Option.bind_some _ _).symm.trans H; rw [hy346]; with_reducible exact H2_) | (have H2_ := (Option.bind_some _ _).symm.trans H; with_reducible exact H2_) | with_reducible exact H | (rw [hy346]; exact H) | exact H
          have Ny346 := Aside0.mk hy346
          clear hy346
          replace H := Option.bind_eq_some_iff.mp H
          obtain ⟨t347, A420, H⟩ := H
          replace H : ((selvageref02_SameInts.f kj26 t347 t336).bind fun t350 => (if t350 = true then ((verify_Code.f y346 t328 t331 t334).bind fun t351 => (if t351 = t342 then ((selvagelaw14_lives.f).bind fun t352 => (some t352)) else (some false))) else (some false))) = some r := H
          have A42 := Aside0.mk A420
          clear A420
          replace H := Option.bind_eq_some_iff.mp H
          obtain ⟨t350, A430, H⟩ := H
          replace H : (if t350 = true then ((verify_Code.f y346 t328 t331 t334).bind fun t351 => (if t351 = t342 then ((selvagelaw14_lives.f).bind fun t352 => (some t352)) else (some false))) else (some false)) = some r := H
          have A43 := Aside0.mk A430
          clear A430
          by_cases c44 : t350 = true
          ·subst c44
           have H1 : ((verify_Code.f y346 t328 t331 t334).bind fun t351 => (if t351 = t342 then ((selvagelaw14_lives.f).bind fun t352 => (some t352)) else (some false))) = some r := by rw [if_pos rfl] at H; exact H
           clear H
           have H := H1
           clear H1
           replace H := Option.bind_eq_some_iff.mp H
           obtain ⟨t351, A450, H⟩ := H
           replace H : (if t351 = t342 then ((selvagelaw14_lives.f).bind fun t352 => (some t352)) else (some false)) = some r := H
           have A45 := Aside0.mk A450
           clear A450
           by_cases c46 : t351 = t342
           ·rw [if_pos c46] at H
            have c46b0 : (t351 == t342) = true := beq_iff_eq.mpr c46
            have c46b1 : (t351 != t342) = false := bne_eq_false_iff_eq.mpr c46
            clear c46
            replace H := Option.bind_eq_some_iff.mp H
            obtain ⟨t352, A470, H⟩ := H
            replace H : (some t352) = some r := H
            have A47 := Aside0.mk A470
            clear A470
            obtain rfl := Option.some.inj H
            obtain ⟨Ao48, co48, eo48⟩ := Kd.R_slice HO_10.out
            subst eo48
            have p340 : 0 ≤ ((ji30) : Int) := of_decide_eq_true (by first | (with_reducible assumption) | assumption)
            have q340 : (ji30) < (t336.length : Int) := of_decide_eq_true (by first | (with_reducible assumption) | assumption)
            obtain ⟨ad340, e340, hx340_0⟩ := Kd.at_int (Kd.R_reads' HO_10.out).2.2 (ji30) p340 q340
            cases e340
            replace p340 := eq_true p340
            replace q340 := eq_true q340
            have hnb49 := NB323_324.out
            have hnc49 := NB324_323.out
            have hcz50_0 : wc.cell? ⟨gb323, 0, none⟩ = some (.slice Ao14 t325.length co14) := (blk_cell BK323.out 0).trans rfl
            have hcz50_1 : wc.cell? ⟨gb323, 1, none⟩ = some (.slice Ao16 t328.length co16) := (blk_cell BK323.out 1).trans rfl
            have hcz50_2 : wc.cell? ⟨gb323, 2, none⟩ = some (.slice Ao17 t331.length co17) := (blk_cell BK323.out 2).trans rfl
            have hcz50_3 : wc.cell? ⟨gb323, 3, none⟩ = some (.int .i64 t334) := (blk_cell BK323.out 3).trans rfl
            have hfz50_0 := blk_frozen BK323.out 0
            have hfz50_1 := blk_frozen BK323.out 1
            have hfz50_2 := blk_frozen BK323.out 2
            have hfz50_3 := blk_frozen BK323.out 3
            try go_wp2_with (first | ((with_reducible refine gate_callee (f := 12) rfl ?_); refine goesL_ (some 45) rfl rfl Try.func12 (by kernel_rfl) rfl #[.agg #[.slice Ao14 t325.length co14, .slice Ao16 t328.length co16, .slice Ao17 t331.length co17, .int .i64 t334]] rfl (by (try simp only [List.map_toArray, List.map_cons, List.map_nil]); first | done | rfl | (simp only [List.length_drop, List.length_take]; rfl)) ?_; (with_reducible refine (verify_Code.calls _ _ t325 _ _ t328 _ _ t331 t334 t342 _ ?side1 ?side2 ?side3 ?side4 ?side5 ?side6 A37.out).mono ?_); (case side1 => repeat (first | exact (Kd.S_reads' HO_324000.out).2.2 | (with_reducible refine Kd.C_alloc ?_ _) | (with_reducible refine Kd.C_drewN ?_ _) | (with_reducible refine Kd.C_drew ?_))); (case side2 => exact (Kd.S_reads' HO_324000.out).2.1); (case side3 => repeat (first | exact (Kd.R_reads' HO_324001.out).2.2 | (with_reducible refine Kd.C_alloc ?_ _) | (with_reducible refine Kd.C_drewN ?_ _) | (with_reducible refine Kd.C_drew ?_))); (case side4 => exact (Kd.R_reads' HO_324001.out).2.1); (case side5 => repeat (first | exact (Kd.R_reads' HO_324002.out).2.2 | (with_reducible refine Kd.C_alloc ?_ _) | (with_reducible refine Kd.C_drewN ?_ _) | (with_reducible refine Kd.C_drew ?_))); (case side6 => exact (Kd.R_reads' HO_324002.out).2.1); rintro e w51 ⟨rfl, hb⟩; refine ⟨_, rfl, ?_⟩; have n0_ := Aside0.mk (Kd.R_below (by (with_reducible repeat (first | apply Kd.R_alloc | apply Kd.R_drewN | apply Kd.R_drew)); exact HO_10.out) hb); have n1_ := Aside0.mk (Kd.S_below (by (with_reducible repeat (first | apply Kd.S_alloc | apply Kd.S_drewN | apply Kd.S_drew)); exact HO_324000.out) hb); have n2_ := Aside0.mk (Kd.R_below (by (with_reducible repeat (first | apply Kd.R_alloc | apply Kd.R_drewN | apply Kd.R_drew)); exact HO_324001.out) hb); have n3_ := Aside0.mk (Kd.R_below (by (with_reducible repeat (first | apply Kd.R_alloc | apply Kd.R_drewN | apply Kd.R_drew)); exact HO_324002.out) hb); have n4_ := Aside0.mk (blk_below (g := gb323) (o := .cells #[.slice Ao14 t325.length co14, .slice Ao16 t328.length co16, .slice Ao17 t331.length co17, .int .i64 t334] 26 (0, 0)) (by (with_reducible repeat (first | refine blk_drewN ?_ _ | refine blk_drew ?_ | refine blk_alloc ?_ _)); exact BK323.out) hb); have n5_ := Aside0.mk (blk_below (g := gb324) (o := .cells #[.int .i64 a3_0, .int .i64 a3_1, .int .i64 a3_2] 37 (0, 0)) (by (with_reducible repeat (first | refine blk_drewN ?_ _ | refine blk_drew ?_ | refine blk_alloc ?_ _)); exact BK324.out) hb); have n6_ := Aside0.mk (below_step (by repeat (first | (with_reducible first | exact HB.out | apply below_alloc | apply pw_below_drewN | apply below_drew1 | refine below_set ?_ GE323.out | refine below_set ?_ GE324.out) | exact HB.out)) hb); clear HO_10; clear HO_324000; clear HO_324001; clear HO_324002; clear BK323; clear BK324; clear HB; have HO_10 := n0_; have HO_324000 := n1_; have HO_324001 := n2_; have HO_324002 := n3_; have BK323 := n4_; have BK324 := n5_; have HB := n6_; clear n0_ n1_ n2_ n3_ n4_ n5_ n6_; (try clear hb); (try clear hb2); (try clear hk); (try clear hi)))
            have n0_ := Aside0.mk (Kd.R_drew HO_10.out)
            have n1_ := Aside0.mk (Kd.S_drew HO_324000.out)
            have n2_ := Aside0.mk (Kd.R_drew HO_324001.out)
            have n3_ := Aside0.mk (Kd.R_drew HO_324002.out)
            have n4_ := Aside0.mk (blk_drew BK323.out)
            have n5_ := Aside0.mk (blk_drew BK324.out)
            have n6_ := Aside0.mk (below_drew1 HB.out)
            clear HO_10
            clear HO_324000
            clear HO_324001
            clear HO_324002
            clear BK323
            clear BK324
            clear HB
            have HO_10 := n0_
            have HO_324000 := n1_
            have HO_324001 := n2_
            have HO_324002 := n3_
            have BK323 := n4_
            have BK324 := n5_
            have HB := n6_
            clear n0_ n1_ n2_ n3_ n4_ n5_ n6_
            have p343 : 0 ≤ (a1 : Int) := of_decide_eq_true (by first | (with_reducible assumption) | assumption)
            have q343 : a1 < (t325.length : Int) := of_decide_eq_true (by first | (with_reducible assumption) | assumption)
            obtain ⟨ad343, A343_3, c343_3, e343, hx343_0, hx343_1, hx343_2, hx343_3, hl343_3, hi343_3⟩ := at_T32 (Kd.S_reads' HO_324000.out).2.2 a1 p343 q343
            cases e343
            obtain ⟨ce343, hce343, hMe343, hcc343⟩ := Kd.S_get HO_324000.out z32 a1 p343 (by first | exact q343 | exact of_decide_eq_true (by first | (with_reducible assumption) | assumption) | (have e_ := (Kd.S_reads' HO_324000.out).1; omega))
            obtain ⟨ve343_3, rfl, ge343_3⟩ := k32_openM hMe343
            have hv343_3 := hcc343 3 _ rfl
            rw [add_field _ _ 3 (by omega)] at hv343_3
            replace hv343_3 := Option.some.inj (hv343_3.symm.trans hx343_3)
            rw [hv343_3] at ge343_3
            have HL343_3 := Aside0.mk (show Kd.R k37 37 _ _ _ _ ((rd_T32 t325 a1).f3) from ge343_3)
            clear hv343_3 ge343_3
            have HX343_3 := Aside0.mk hx343_3
            clear hcc343 hce343
            have HR343_3 := Aside0.mk hi343_3
            have HC343_3 := Aside0.mk hl343_3
            clear hi343_3 hl343_3
            replace p343 := eq_true p343
            replace q343 := eq_true q343
            have p41 : 0 ≤ ((ji30) : Int) := of_decide_eq_true (by first | (with_reducible assumption) | assumption)
            have q41 : ((ji30) : Int) < ((((rd_T32 t325 a1).f3).length : Int) : Int) := of_decide_eq_true (by first | (with_reducible assumption) | assumption)
            obtain ⟨go41, co41, eo41, gb41, gl41, cl41, HG41⟩ := Kd.R_form HL343_3.out (by omega)
            (first | cases eo41 | (injection eo41 with ea_ en_ ec_; (first | subst ea_ | (injection ea_ with ea_; subst ea_)); subst ec_; clear en_))
            have GB41 := Aside0.mk gb41
            have GG41 := Aside0.mk HG41
            clear gb41 gl41 HG41
            obtain ⟨ce41, hcl41, hM41, hcc41, hfr41⟩ := Kd.R_elem HL343_3.out z37 ((ji30) : Int) p41 q41
            obtain rfl := k37_openM hM41
            have hx41_0 : World.cell? _ ⟨go41, ((ji30) : Int).toNat * 3, none⟩ = some (.int .i64 ((rd_T37 ((rd_T32 t325 a1).f3) (ji30)).f0)) := hcc41 0 _ rfl
            have hx41_1 : World.cell? _ ⟨go41, ((ji30) : Int).toNat * 3 + 1, none⟩ = some (.int .i64 ((rd_T37 ((rd_T32 t325 a1).f3) (ji30)).f1)) := hcc41 1 _ rfl
            have hx41_2 : World.cell? _ ⟨go41, ((ji30) : Int).toNat * 3 + 2, none⟩ = some (.int .i64 ((rd_T37 ((rd_T32 t325 a1).f3) (ji30)).f2)) := hcc41 2 _ rfl
            have hf41_0 : World.frozen? _ ⟨go41, ((ji30) : Int).toNat * 3, none⟩ = false := hfr41 0
            have hf41_1 : World.frozen? _ ⟨go41, ((ji30) : Int).toNat * 3 + 1, none⟩ = false := hfr41 1
            have hf41_2 : World.frozen? _ ⟨go41, ((ji30) : Int).toNat * 3 + 2, none⟩ = false := hfr41 2
            clear hcl41 hcc41 hfr41 hM41
            replace p41 := eq_true p41
            replace q41 := eq_true q41
            have hq53 : (a1 : Int) < (t325.length : Int) := (by have h_ : (a1 : Int) < ((t325.length : Int) : Int) := of_decide_eq_true (by first | (with_reducible assumption) | assumption); first | exact h_ | (have e_ := (Kd.S_reads' HO_324000.out).1; omega) | simpa only [List.length_set, List.length_set] using h_)
            obtain ⟨oki53, ce53, hcl53, hM53, hcc53, hok53, hbk53⟩ := Kd.S_borrow HO_324000.out z32 (a1 : Int) (of_decide_eq_true (by first | (with_reducible assumption) | assumption)) hq53
            obtain ⟨ve53_3, rfl, ge53_3⟩ := k32_openM hM53
            have hv53 := hcc53 3 _ rfl
            rw [add_field _ _ 3 (by omega)] at hv53
            replace hv53 := Option.some.inj (hv53.symm.trans HX343_3.out)
            subst hv53
            clear hcc53 hcl53
            replace ge53_3 := (show Kd.R k37 37 _ _ _ _ ((rd_T32 t325 a1).f3) from ge53_3)
            obtain ⟨cf53, hcl53, hN53, hcc53, hfr53⟩ := Kd.R_elem ge53_3 z37 ((ji30) : Int) (of_decide_eq_true (by first | (with_reducible assumption) | assumption)) (by have h_ : ((ji30) : Int) < ((((rd_T32 t325 a1).f3).length : Int) : Int) := of_decide_eq_true (by first | (with_reducible assumption) | assumption); first | exact h_ | (have e_ := (Kd.R_reads' HR343_3.out).1; omega) | simpa using h_)
            obtain rfl := k37_openM hN53
            have HP53 := Kd.R_seg ge53_3 ((ji30) : Int) (of_decide_eq_true (by first | (with_reducible assumption) | assumption)) (by have h_ : ((ji30) : Int) < ((((rd_T32 t325 a1).f3).length : Int) : Int) := of_decide_eq_true (by first | (with_reducible assumption) | assumption); first | exact h_ | (have e_ := (Kd.R_reads' HR343_3.out).1; omega) | simpa using h_) (seg := [.int .i64 a3_0, .int .i64 a3_1, .int .i64 a3_2]) (j := 0) hcl53 hcc53 (show 3 ≤ 3 from by decide) (x' := (⟨a3_0, a3_1, a3_2⟩ : S37)) (k37_mkM _ _ _ (⟨a3_0, a3_1, a3_2⟩ : S37)) (fun _ hk => hk)
            clear hcl53 hcc53 hfr53 hN53
            rw [← Ny344.out] at HP53
            have HS53 := hbk53 HP53.2 (fun k_ e_ => by injection e_ with e_; subst e_; exact ge53_3.1 _ rfl) (x' := (⟨(rd_T32 t325 a1).f0, (rd_T32 t325 a1).f1, (rd_T32 t325 a1).f2, y344⟩ : S32)) (k32_mkM _ _ _ (⟨(rd_T32 t325 a1).f0, (rd_T32 t325 a1).f1, (rd_T32 t325 a1).f2, y344⟩ : S32) HP53.1)
            rw [← Ny346.out] at HS53
            have HQ53 := Aside0.mk HS53
            clear HP53 HS53 hbk53 hok53
            refine start_ (n := 10) (S := fun w' => w'.cell? ⟨gb323, 0, none⟩ = some (.slice (some ad343) t325.length co14) ∧ w'.cell? ⟨gb323, 1, none⟩ = some (.slice Ao16 t328.length co16) ∧ w'.cell? ⟨gb323, 2, none⟩ = some (.slice Ao17 t331.length co17) ∧ w'.cell? ⟨gb323, 3, none⟩ = some (.int .i64 t334) ∧ w'.cell? ⟨gb324, 0, none⟩ = some (.int .i64 a3_0) ∧ w'.cell? ⟨gb324, 1, none⟩ = some (.int .i64 a3_1) ∧ w'.cell? ⟨gb324, 2, none⟩ = some (.int .i64 a3_2) ∧ w'.cell? (ad343.add ((a1).toNat * 4)) = some (.int .i64 ((rd_T32 t325 a1).f0)) ∧ w'.cell? ⟨(ad343.add ((a1).toNat * 4)).block, (ad343.add ((a1).toNat * 4)).off + 1, none⟩ = some (.int .i64 ((rd_T32 t325 a1).f1)) ∧ w'.cell? ⟨(ad343.add ((a1).toNat * 4)).block, (ad343.add ((a1).toNat * 4)).off + 2, none⟩ = some (.int .i64 ((rd_T32 t325 a1).f2)) ∧ w'.cell? ⟨(ad343.add ((a1).toNat * 4)).block, (ad343.add ((a1).toNat * 4)).off + 3, none⟩ = some (.slice (some ⟨go41, 0, none⟩) ((rd_T32 t325 a1).f3).length c343_3)) (ds := [9]) #[false, false, false, false, false, false, false, false, false, false] (by kernel_rfl) rfl rfl ⟨(blk_cell BK323.out 0).trans rfl, (blk_cell BK323.out 1).trans rfl, (blk_cell BK323.out 2).trans rfl, (blk_cell BK323.out 3).trans rfl, (blk_cell BK324.out 0).trans rfl, (blk_cell BK324.out 1).trans rfl, (blk_cell BK324.out 2).trans rfl, hx343_0, hx343_1, hx343_2, hx343_3⟩ (fun hHeld => ?_); refine with_tabW selvagelaw14_VerifyBehind.tab12 selvagelaw14_VerifyBehind.bits12 (fun HT_ HW_ => ?_)
            generalize w51.drew = w52 at HO_10 HO_324000 HO_324001 HO_324002 BK323 BK324 HB GG41 HL343_3 HQ53 HR343_3 HX343_3 hf41_0 hf41_1 hf41_2 hx343_0 hx343_1 hx343_2 hx343_3 hx41_0 hx41_1 hx41_2 hHeld ⊢
            refine pure_ (i := 0) (N := some 46) (v := ?_) (a' := ?_) #[true, false, false, false, false, false, false, false, false, false] rfl rfl (any_of HT_.out (by kernel_rfl)) (fun _ _ _ h => h) (Or.inl ⟨by rfl, ?_⟩) ?_ ?_
            rotate_left
            ·intro w'
             go_simp
             with_reducible rfl
            rotate_left
            ·simp only [Act.put, List.setIfInBounds_toArray, List.set_cons_zero, List.set_cons_succ, i64_w, i32_w]
             rfl
            refine pure_ (i := 2) (N := some 48) (v := ?_) (a' := ?_) #[true, false, true, false, false, false, false, false, false, false] rfl rfl (any_of HT_.out (by kernel_rfl)) (fun _ _ _ h => h) (Or.inl ⟨by rfl, ?_⟩) ?_ ?_
            rotate_left
            ·intro w'
             go_simp
             with_reducible rfl
            rotate_left
            ·simp only [Act.put, List.setIfInBounds_toArray, List.set_cons_zero, List.set_cons_succ, i64_w, i32_w]
             rfl
            refine pure_ (i := 6) (N := some 52) (v := ?_) (a' := ?_) #[true, false, true, false, false, false, true, false, false, false] rfl rfl (any_of HT_.out (by kernel_rfl)) (fun _ _ _ h => h) (Or.inl ⟨by rfl, ?_⟩) ?_ ?_
            rotate_left
            ·intro w'
             go_simp
             with_reducible rfl
            rotate_left
            ·simp only [Act.put, List.setIfInBounds_toArray, List.set_cons_zero, List.set_cons_succ, i64_w, i32_w]
             rfl
            refine take_ (i := 1) (N := some 47) (v := ?_) (a' := ?_) #[true, true, true, false, false, false, true, false, false, false] rfl rfl (take_ofW HT_.out HW_.out (by kernel_rfl)) (fun _ _ _ h => h) (Or.inl ⟨by rfl, ?_⟩) hHeld ?_ ?_
            rotate_left
            ·rintro w' ⟨s0, s1, s2, s3, s4, s5, s6, s7, s8, s9, s10⟩
             go_simp
             with_reducible rfl
            rotate_left
            ·simp only [Act.put, List.setIfInBounds_toArray, List.set_cons_zero, List.set_cons_succ, i64_w, i32_w]
             rfl
            refine pure_ (i := 3) (N := some 49) (v := ?_) (a' := ?_) #[true, true, true, true, false, false, true, false, false, false] rfl rfl (any_of HT_.out (by kernel_rfl)) (fun _ _ _ h => h) (Or.inl ⟨by rfl, ?_⟩) ?_ ?_
            rotate_left
            ·intro w'
             go_simp
             with_reducible rfl
            rotate_left
            ·simp only [Act.put, List.setIfInBounds_toArray, List.set_cons_zero, List.set_cons_succ, i64_w, i32_w]
             rfl
            refine pure_ (i := 4) (N := some 50) (v := ?_) (a' := ?_) #[true, true, true, true, true, false, true, false, false, false] rfl rfl (any_of HT_.out (by kernel_rfl)) (fun _ _ _ h => h) (Or.inl ⟨by rfl, ?_⟩) ?_ ?_
            rotate_left
            ·intro w'
             go_simp
             with_reducible rfl
            rotate_left
            ·simp only [Act.put, List.setIfInBounds_toArray, List.set_cons_zero, List.set_cons_succ, i64_w, i32_w]
             rfl
            refine take_ (i := 5) (N := some 51) (v := ?_) (a' := ?_) #[true, true, true, true, true, true, true, false, false, false] rfl rfl (take_ofW HT_.out HW_.out (by kernel_rfl)) (fun _ _ _ h => h) (Or.inl ⟨by rfl, ?_⟩) hHeld ?_ ?_
            rotate_left
            ·rintro w' ⟨s0, s1, s2, s3, s4, s5, s6, s7, s8, s9, s10⟩
             go_simp
             with_reducible rfl
            rotate_left
            ·simp only [Act.put, List.setIfInBounds_toArray, List.set_cons_zero, List.set_cons_succ, i64_w, i32_w]
             rfl
            refine take_ (i := 7) (N := some 53) (v := ?_) (a' := ?_) #[true, true, true, true, true, true, true, true, false, false] rfl rfl (take_ofW HT_.out HW_.out (by kernel_rfl)) (fun _ _ _ h => h) (Or.inl ⟨by rfl, ?_⟩) hHeld ?_ ?_
            rotate_left
            ·rintro w' ⟨s0, s1, s2, s3, s4, s5, s6, s7, s8, s9, s10⟩
             go_simp
             with_reducible rfl
            rotate_left
            ·simp only [Act.put, List.setIfInBounds_toArray, List.set_cons_zero, List.set_cons_succ, i64_w, i32_w]
             rfl
            refine pure_ (i := 8) (N := some 54) (v := ?_) (a' := ?_) #[true, true, true, true, true, true, true, true, true, false] rfl rfl (any_of HT_.out (by kernel_rfl)) (fun _ _ _ h => h) (Or.inl ⟨by rfl, ?_⟩) ?_ ?_
            rotate_left
            ·intro w'
             go_simp
             with_reducible rfl
            rotate_left
            ·simp only [Act.put, List.setIfInBounds_toArray, List.set_cons_zero, List.set_cons_succ, i64_w, i32_w]
             rfl
            refine last_ (i := 9) (N := none) #[true, true, true, true, true, true, true, true, true, true] rfl rfl (one_of HT_.out (by kernel_rfl)) (by decide) (fun K hK => ?_)
            refine skip_ (w1 := ?_) (by rfl) rfl ?_ ?_
            rotate_left
            ·go_simp
             rfl
            refine hK.out _ _ ?_
            clear hK K
            refine done_ (done_of HT_.out (by kernel_rfl)) ?_
            have hcz55_0 : w52.cell? ⟨gb323, 0, none⟩ = some (.slice (some ad343) t325.length co14) := (blk_cell BK323.out 0).trans rfl
            have hneF : go41 ≠ gb323 := blk_ne GG41.out BK323.out (by decide)
            have hfaF : ∀ (W : World) (i j : Nat) (x : Value), (W.setCell ⟨go41, i, none⟩ x).cell? ⟨gb323, j, none⟩ = W.cell? ⟨gb323, j, none⟩ := fun W i j x => World.cell?_setCell_far W ⟨go41, i, none⟩ ⟨gb323, j, none⟩ x hneF
            have hcz55_1 : w52.cell? ⟨gb323, 1, none⟩ = some (.slice Ao16 t328.length co16) := (blk_cell BK323.out 1).trans rfl
            have hcz55_2 : w52.cell? ⟨gb323, 2, none⟩ = some (.slice Ao17 t331.length co17) := (blk_cell BK323.out 2).trans rfl
            have hcz55_3 : w52.cell? ⟨gb323, 3, none⟩ = some (.int .i64 t334) := (blk_cell BK323.out 3).trans rfl
            have hfz55_0 := blk_frozen BK323.out 0
            have hfz55_1 := blk_frozen BK323.out 1
            have hfz55_2 := blk_frozen BK323.out 2
            have hfz55_3 := blk_frozen BK323.out 3
            try go_wp2_with (first | ((with_reducible refine gate_callee (f := 9) rfl ?_); refine goesL_ (some 57) rfl rfl Try.func9 (by kernel_rfl) rfl #[.agg #[.slice (some ad343) y346.length co14, .slice Ao16 t328.length co16, .slice Ao17 t331.length co17, .int .i64 t334], .int .i64 a1] rfl (by (try simp only [List.map_toArray, List.map_cons, List.map_nil]); first | done | (rw [show y346.length = t325.length from (Kd.S_reads' HQ53.out).1.symm] <;> rfl) | rfl | (simp only [List.length_drop, List.length_take]; rfl)) ?_; (with_reducible refine (verify_Depths.calls _ _ y346 _ _ t328 _ _ t331 t334 a1 t347 _ ?side1 ?side2 ?side3 ?side4 ?side5 ?side6 A42.out).mono ?_); (case side1 => refine (Kd.S_reads' (e := 32) (base := w.heap.size) (ok := fun k_ => k_ ≠ gb324) (n := t325.length) (c := co14) ?_).2.2; exact (by (with_reducible repeat (first | apply Kd.S_alloc | apply Kd.S_drewN | apply Kd.S_drew)); exact HQ53.out)); (case side2 => rw [show y346.length = t325.length from (Kd.S_reads' HQ53.out).1.symm]; exact (Kd.S_reads' HO_324000.out).2.1); (case side3 => refine (Kd.R_reads' (e := 3) (base := w.heap.size) (ok := fun k_ => some k_ ≠ (.slice (some ad340) t336.length co48 : Value).ownBlock) (n := t328.length) (c := co16) ?_).2.2; exact (by (with_reducible repeat (first | apply Kd.R_alloc | apply Kd.R_drewN | apply Kd.R_drew)); exact (Kd.R_mono (Kd.R_far (p := ⟨go41, ((ji30) : Int).toNat * 3 + 2, none⟩) (Kd.R_far (p := ⟨go41, ((ji30) : Int).toNat * 3 + 1, none⟩) (Kd.R_far (p := ⟨go41, ((ji30) : Int).toNat * 3, none⟩) (Kd.R_types HO_324001.out GG41.out (by decide)) (fun _ hk => hk.2) (.int .i64 a3_0)) (fun _ hk => hk.2) (.int .i64 a3_1)) (fun _ hk => hk.2) (.int .i64 a3_2)) (fun _ h_ => h_.1)))); (case side4 => exact (Kd.R_reads' HO_324001.out).2.1); (case side5 => refine (Kd.R_reads' (e := 9) (base := w.heap.size) (ok := fun k_ => True) (n := t331.length) (c := co17) ?_).2.2; exact (by (with_reducible repeat (first | apply Kd.R_alloc | apply Kd.R_drewN | apply Kd.R_drew)); exact (Kd.R_mono (Kd.R_far (p := ⟨go41, ((ji30) : Int).toNat * 3 + 2, none⟩) (Kd.R_far (p := ⟨go41, ((ji30) : Int).toNat * 3 + 1, none⟩) (Kd.R_far (p := ⟨go41, ((ji30) : Int).toNat * 3, none⟩) (Kd.R_types HO_324002.out GG41.out (by decide)) (fun _ hk => hk.2) (.int .i64 a3_0)) (fun _ hk => hk.2) (.int .i64 a3_1)) (fun _ hk => hk.2) (.int .i64 a3_2)) (fun _ h_ => h_.1)))); (case side6 => exact (Kd.R_reads' HO_324002.out).2.1); rintro e w56 ⟨v348, rfl, ho0, hb⟩; refine ⟨_, rfl, ?_⟩; have n0_ := Aside0.mk (Kd.R_elder' (by (with_reducible repeat (first | apply Kd.R_alloc | apply Kd.R_drewN | apply Kd.R_drew)); exact (Kd.R_mono (Kd.R_far (p := ⟨go41, ((ji30) : Int).toNat * 3 + 2, none⟩) (Kd.R_far (p := ⟨go41, ((ji30) : Int).toNat * 3 + 1, none⟩) (Kd.R_far (p := ⟨go41, ((ji30) : Int).toNat * 3, none⟩) (Kd.R_types HO_10.out GG41.out (by decide)) (fun _ hk => hk.2) (.int .i64 a3_0)) (fun _ hk => hk.2) (.int .i64 a3_1)) (fun _ hk => hk.2) (.int .i64 a3_2)) (fun _ h_ => h_.1))) (Kd.R_base ho0) hb); have n1_ := Aside0.mk (Kd.S_below (by (with_reducible repeat (first | apply Kd.S_alloc | apply Kd.S_drewN | apply Kd.S_drew)); exact HQ53.out) hb); have n2_ := Aside0.mk (Kd.R_elder' (by (with_reducible repeat (first | apply Kd.R_alloc | apply Kd.R_drewN | apply Kd.R_drew)); exact (Kd.R_mono (Kd.R_far (p := ⟨go41, ((ji30) : Int).toNat * 3 + 2, none⟩) (Kd.R_far (p := ⟨go41, ((ji30) : Int).toNat * 3 + 1, none⟩) (Kd.R_far (p := ⟨go41, ((ji30) : Int).toNat * 3, none⟩) (Kd.R_types HO_324001.out GG41.out (by decide)) (fun _ hk => hk.2) (.int .i64 a3_0)) (fun _ hk => hk.2) (.int .i64 a3_1)) (fun _ hk => hk.2) (.int .i64 a3_2)) (fun _ h_ => h_.1))) (Kd.R_base ho0) hb); have n3_ := Aside0.mk (Kd.R_below (by (with_reducible repeat (first | apply Kd.R_alloc | apply Kd.R_drewN | apply Kd.R_drew)); exact (Kd.R_mono (Kd.R_far (p := ⟨go41, ((ji30) : Int).toNat * 3 + 2, none⟩) (Kd.R_far (p := ⟨go41, ((ji30) : Int).toNat * 3 + 1, none⟩) (Kd.R_far (p := ⟨go41, ((ji30) : Int).toNat * 3, none⟩) (Kd.R_types HO_324002.out GG41.out (by decide)) (fun _ hk => hk.2) (.int .i64 a3_0)) (fun _ hk => hk.2) (.int .i64 a3_1)) (fun _ hk => hk.2) (.int .i64 a3_2)) (fun _ h_ => h_.1))) hb); have n4_ := Aside0.mk (Kd.R_lower (Kd.R_new' (Kd.R_new' ho0 (Kd.R_lt (by (with_reducible repeat (first | apply Kd.R_alloc | apply Kd.R_drewN | apply Kd.R_drew)); exact (Kd.R_mono (Kd.R_far (p := ⟨go41, ((ji30) : Int).toNat * 3 + 2, none⟩) (Kd.R_far (p := ⟨go41, ((ji30) : Int).toNat * 3 + 1, none⟩) (Kd.R_far (p := ⟨go41, ((ji30) : Int).toNat * 3, none⟩) (Kd.R_types HO_10.out GG41.out (by decide)) (fun _ hk => hk.2) (.int .i64 a3_0)) (fun _ hk => hk.2) (.int .i64 a3_1)) (fun _ hk => hk.2) (.int .i64 a3_2)) (fun _ h_ => h_.1))))) (Kd.R_lt (by (with_reducible repeat (first | apply Kd.R_alloc | apply Kd.R_drewN | apply Kd.R_drew)); exact (Kd.R_mono (Kd.R_far (p := ⟨go41, ((ji30) : Int).toNat * 3 + 2, none⟩) (Kd.R_far (p := ⟨go41, ((ji30) : Int).toNat * 3 + 1, none⟩) (Kd.R_far (p := ⟨go41, ((ji30) : Int).toNat * 3, none⟩) (Kd.R_types HO_324001.out GG41.out (by decide)) (fun _ hk => hk.2) (.int .i64 a3_0)) (fun _ hk => hk.2) (.int .i64 a3_1)) (fun _ hk => hk.2) (.int .i64 a3_2)) (fun _ h_ => h_.1))))) (below_size (by repeat (first | (with_reducible first | exact HB.out | apply below_alloc | apply pw_below_drewN | apply below_drew1 | refine below_set ?_ GB41.out | refine below_set ?_ GB41.out | refine below_set ?_ GB41.out | refine below_set ?_ GE323.out | refine below_set ?_ GE324.out) | exact HB.out)))); have n5_ := Aside0.mk (blk_below (g := gb323) (o := .cells #[.slice (some ad343) t325.length co14, .slice Ao16 t328.length co16, .slice Ao17 t331.length co17, .int .i64 t334] 26 (0, 0)) (by (with_reducible repeat (first | refine blk_drewN ?_ _ | refine blk_drew ?_ | refine blk_alloc ?_ _)); refine blk_far ?_ (by have h_ := Kd.R_ne HL343_3.out BK323.out (by decide); intro e_; exact h_ (by rw [e_]; rfl)) _; (with_reducible repeat (first | refine blk_drewN ?_ _ | refine blk_drew ?_ | refine blk_alloc ?_ _)); refine blk_far ?_ (by have h_ := Kd.R_ne HL343_3.out BK323.out (by decide); intro e_; exact h_ (by rw [e_]; rfl)) _; (with_reducible repeat (first | refine blk_drewN ?_ _ | refine blk_drew ?_ | refine blk_alloc ?_ _)); refine blk_far ?_ (by have h_ := Kd.R_ne HL343_3.out BK323.out (by decide); intro e_; exact h_ (by rw [e_]; rfl)) _; (with_reducible repeat (first | refine blk_drewN ?_ _ | refine blk_drew ?_ | refine blk_alloc ?_ _)); exact BK323.out) hb); have n6_ := Aside0.mk (blk_below (g := gb324) (o := .cells #[.int .i64 a3_0, .int .i64 a3_1, .int .i64 a3_2] 37 (0, 0)) (by (with_reducible repeat (first | refine blk_drewN ?_ _ | refine blk_drew ?_ | refine blk_alloc ?_ _)); refine blk_far ?_ (by have h_ := Kd.R_away HL343_3.out (fun _ hk => hk.1); intro e_; exact h_ (by rw [e_]; rfl)) _; (with_reducible repeat (first | refine blk_drewN ?_ _ | refine blk_drew ?_ | refine blk_alloc ?_ _)); refine blk_far ?_ (by have h_ := Kd.R_away HL343_3.out (fun _ hk => hk.1); intro e_; exact h_ (by rw [e_]; rfl)) _; (with_reducible repeat (first | refine blk_drewN ?_ _ | refine blk_drew ?_ | refine blk_alloc ?_ _)); refine blk_far ?_ (by have h_ := Kd.R_away HL343_3.out (fun _ hk => hk.1); intro e_; exact h_ (by rw [e_]; rfl)) _; (with_reducible repeat (first | refine blk_drewN ?_ _ | refine blk_drew ?_ | refine blk_alloc ?_ _)); exact BK324.out) hb); have n7_ := Aside0.mk (below_step (by repeat (first | (with_reducible first | exact HB.out | apply below_alloc | apply pw_below_drewN | apply below_drew1 | refine below_set ?_ GB41.out | refine below_set ?_ GB41.out | refine below_set ?_ GB41.out | refine below_set ?_ GE323.out | refine below_set ?_ GE324.out) | exact HB.out)) hb); clear HO_10; clear HO_324000; clear HO_324001; clear HO_324002; clear BK323; clear BK324; clear HB; have HO_10 := n0_; have HO_324000 := n1_; have HO_324001 := n2_; have HO_324002 := n3_; have HO349 := n4_; have BK323 := n5_; have BK324 := n6_; have HB := n7_; clear n0_ n1_ n2_ n3_ n4_ n5_ n6_ n7_; (try clear hb); (try clear hb2); (try clear hk); (try clear hi); (try clear ho0); obtain ⟨Ao57, co57, eo57⟩ := Kd.R_slice HO349.out; subst eo57) | ((with_reducible refine gate_callee (f := 14) rfl ?_); refine goesL_ (some 59) rfl rfl Try.func14 (by kernel_rfl) rfl #[.slice Ao57 t347.length co57, .slice (some ad340) t336.length co48] rfl (by (try simp only [List.map_toArray, List.map_cons, List.map_nil]); first | done | rfl | (simp only [List.length_drop, List.length_take]; rfl)) ?_; (with_reducible refine (selvageref02_SameInts.calls kj26 _ _ t347 _ _ t336 true _ ?side1 ?side2 ?side3 ?side4 A43.out).mono ?_); (case side1 => repeat (first | exact (Kd.R_reads' HO349.out).2.2 | (with_reducible refine Kd.C_alloc ?_ _) | (with_reducible refine Kd.C_drewN ?_ _) | (with_reducible refine Kd.C_drew ?_))); (case side2 => exact (Kd.R_reads' HO349.out).2.1); (case side3 => repeat (first | exact (Kd.R_reads' HO_10.out).2.2 | (with_reducible refine Kd.C_alloc ?_ _) | (with_reducible refine Kd.C_drewN ?_ _) | (with_reducible refine Kd.C_drew ?_))); (case side4 => exact (Kd.R_reads' HO_10.out).2.1); rintro e w' ⟨rfl, ⟨nd, rfl⟩⟩; refine ⟨_, rfl, ?_⟩; have hcz58_0 : w56.cell? ⟨gb323, 0, none⟩ = some (.slice (some ad343) t325.length co14) := (blk_cell BK323.out 0).trans rfl; have hcz58_1 : w56.cell? ⟨gb323, 1, none⟩ = some (.slice Ao16 t328.length co16) := (blk_cell BK323.out 1).trans rfl; have hcz58_2 : w56.cell? ⟨gb323, 2, none⟩ = some (.slice Ao17 t331.length co17) := (blk_cell BK323.out 2).trans rfl; have hcz58_3 : w56.cell? ⟨gb323, 3, none⟩ = some (.int .i64 t334) := (blk_cell BK323.out 3).trans rfl; have hfz58_0 := blk_frozen BK323.out 0; have hfz58_1 := blk_frozen BK323.out 1; have hfz58_2 := blk_frozen BK323.out 2; have hfz58_3 := blk_frozen BK323.out 3) | (go_at_call 12; refine calls_of_args (args' := #[.agg #[.slice (some ad343) y346.length co14, .slice Ao16 t328.length co16, .slice Ao17 t331.length co17, .int .i64 t334]]) (by first | (rw [show y346.length = t325.length from (Kd.S_reads' HO_324000.out).1.symm] <;> rfl) | rfl) ?_; (with_reducible refine (verify_Code.calls _ _ y346 _ _ t328 _ _ t331 t334 t351 _ ?side1 ?side2 ?side3 ?side4 ?side5 ?side6 A45.out).mono ?_); (case side1 => repeat (first | exact (Kd.S_reads' HO_324000.out).2.2 | (with_reducible refine Kd.C_alloc ?_ _) | (with_reducible refine Kd.C_drewN ?_ _) | (with_reducible refine Kd.C_drew ?_))); (case side2 => rw [show y346.length = t325.length from (Kd.S_reads' HO_324000.out).1.symm]; exact (Kd.S_reads' HO_324000.out).2.1); (case side3 => repeat (first | exact (Kd.R_reads' HO_324001.out).2.2 | (with_reducible refine Kd.C_alloc ?_ _) | (with_reducible refine Kd.C_drewN ?_ _) | (with_reducible refine Kd.C_drew ?_))); (case side4 => exact (Kd.R_reads' HO_324001.out).2.1); (case side5 => repeat (first | exact (Kd.R_reads' HO_324002.out).2.2 | (with_reducible refine Kd.C_alloc ?_ _) | (with_reducible refine Kd.C_drewN ?_ _) | (with_reducible refine Kd.C_drew ?_))); (case side6 => exact (Kd.R_reads' HO_324002.out).2.1); rintro e w59 ⟨rfl, hb⟩; have n0_ := Aside0.mk (Kd.R_below (by (with_reducible repeat (first | apply Kd.R_alloc | apply Kd.R_drewN | apply Kd.R_drew)); exact HO_10.out) hb); have n1_ := Aside0.mk (Kd.S_below (by (with_reducible repeat (first | apply Kd.S_alloc | apply Kd.S_drewN | apply Kd.S_drew)); exact HO_324000.out) hb); have n2_ := Aside0.mk (Kd.R_below (by (with_reducible repeat (first | apply Kd.R_alloc | apply Kd.R_drewN | apply Kd.R_drew)); exact HO_324001.out) hb); have n3_ := Aside0.mk (Kd.R_below (by (with_reducible repeat (first | apply Kd.R_alloc | apply Kd.R_drewN | apply Kd.R_drew)); exact HO_324002.out) hb); have n4_ := Aside0.mk (Kd.R_below (by (with_reducible repeat (first | apply Kd.R_alloc | apply Kd.R_drewN | apply Kd.R_drew)); exact HO349.out) hb); have n5_ := Aside0.mk (blk_below (g := gb323) (o := .cells #[.slice (some ad343) t325.length co14, .slice Ao16 t328.length co16, .slice Ao17 t331.length co17, .int .i64 t334] 26 (0, 0)) (by (with_reducible repeat (first | refine blk_drewN ?_ _ | refine blk_drew ?_ | refine blk_alloc ?_ _)); exact BK323.out) hb); have n6_ := Aside0.mk (blk_below (g := gb324) (o := .cells #[.int .i64 a3_0, .int .i64 a3_1, .int .i64 a3_2] 37 (0, 0)) (by (with_reducible repeat (first | refine blk_drewN ?_ _ | refine blk_drew ?_ | refine blk_alloc ?_ _)); exact BK324.out) hb); have n7_ := Aside0.mk (below_step (by repeat (first | (with_reducible first | exact HB.out | apply below_alloc | apply pw_below_drewN | apply below_drew1 | refine below_set ?_ GE323.out | refine below_set ?_ GE324.out) | exact HB.out)) hb); clear HO_10; clear HO_324000; clear HO_324001; clear HO_324002; clear HO349; clear BK323; clear BK324; clear HB; have HO_10 := n0_; have HO_324000 := n1_; have HO_324001 := n2_; have HO_324002 := n3_; have HO349 := n4_; have BK323 := n5_; have BK324 := n6_; have HB := n7_; clear n0_ n1_ n2_ n3_ n4_ n5_ n6_ n7_; (try clear hb); (try clear hb2); (try clear hk); (try clear hi)) | (go_at_call 10; (with_reducible refine (selvagelaw14_lives.calls  t352 _ A47.out).mono ?_); rintro e w60 ⟨rfl, hb⟩; have n0_ := Aside0.mk (Kd.R_below (by (with_reducible repeat (first | apply Kd.R_alloc | apply Kd.R_drewN | apply Kd.R_drew)); exact HO_10.out) hb); have n1_ := Aside0.mk (Kd.S_below (by (with_reducible repeat (first | apply Kd.S_alloc | apply Kd.S_drewN | apply Kd.S_drew)); exact HO_324000.out) hb); have n2_ := Aside0.mk (Kd.R_below (by (with_reducible repeat (first | apply Kd.R_alloc | apply Kd.R_drewN | apply Kd.R_drew)); exact HO_324001.out) hb); have n3_ := Aside0.mk (Kd.R_below (by (with_reducible repeat (first | apply Kd.R_alloc | apply Kd.R_drewN | apply Kd.R_drew)); exact HO_324002.out) hb); have n4_ := Aside0.mk (Kd.R_below (by (with_reducible repeat (first | apply Kd.R_alloc | apply Kd.R_drewN | apply Kd.R_drew)); exact HO349.out) hb); have n5_ := Aside0.mk (blk_below (g := gb323) (o := .cells #[.slice (some ad343) t325.length co14, .slice Ao16 t328.length co16, .slice Ao17 t331.length co17, .int .i64 t334] 26 (0, 0)) (by (with_reducible repeat (first | refine blk_drewN ?_ _ | refine blk_drew ?_ | refine blk_alloc ?_ _)); exact BK323.out) hb); have n6_ := Aside0.mk (blk_below (g := gb324) (o := .cells #[.int .i64 a3_0, .int .i64 a3_1, .int .i64 a3_2] 37 (0, 0)) (by (with_reducible repeat (first | refine blk_drewN ?_ _ | refine blk_drew ?_ | refine blk_alloc ?_ _)); exact BK324.out) hb); have n7_ := Aside0.mk (below_step (by repeat (first | (with_reducible first | exact HB.out | apply below_alloc | apply pw_below_drewN | apply below_drew1 | refine below_set ?_ GE323.out | refine below_set ?_ GE324.out) | exact HB.out)) hb); clear HO_10; clear HO_324000; clear HO_324001; clear HO_324002; clear HO349; clear BK323; clear BK324; clear HB; have HO_10 := n0_; have HO_324000 := n1_; have HO_324001 := n2_; have HO_324002 := n3_; have HO349 := n4_; have BK323 := n5_; have BK324 := n6_; have HB := n7_; clear n0_ n1_ n2_ n3_ n4_ n5_ n6_ n7_; (try clear hb); (try clear hb2); (try clear hk); (try clear hi)))
            go_ret
            exact ⟨by first | rfl | (simp [errW_none, errW_some] <;> rfl) | (simp only [← hji30]; first | rfl | (simp [errW_none, errW_some] <;> rfl)) | (simp [*, errW_none, errW_some] <;> rfl), by repeat (first | (with_reducible first | exact HB.out | apply below_alloc | apply pw_below_drewN | apply below_drew1 | refine below_set ?_ GE323.out | refine below_set ?_ GE324.out) | exact HB.out)⟩
           rw [if_neg c46] at H
           have c46b0 : (t351 == t342) = false := beq_eq_false_iff_ne.mpr c46
           have c46b1 : (t351 != t342) = true := bne_iff_ne.mpr c46
           obtain rfl := Option.some.inj H
           obtain ⟨Ao61, co61, eo61⟩ := Kd.R_slice HO_10.out
           subst eo61
           have p340 : 0 ≤ ((ji30) : Int) := of_decide_eq_true (by first | (with_reducible assumption) | assumption)
           have q340 : (ji30) < (t336.length : Int) := of_decide_eq_true (by first | (with_reducible assumption) | assumption)
           obtain ⟨ad340, e340, hx340_0⟩ := Kd.at_int (Kd.R_reads' HO_10.out).2.2 (ji30) p340 q340
           cases e340
           replace p340 := eq_true p340
           replace q340 := eq_true q340
           have hnb62 := NB323_324.out
           have hnc62 := NB324_323.out
           have hcz63_0 : wc.cell? ⟨gb323, 0, none⟩ = some (.slice Ao14 t325.length co14) := (blk_cell BK323.out 0).trans rfl
           have hcz63_1 : wc.cell? ⟨gb323, 1, none⟩ = some (.slice Ao16 t328.length co16) := (blk_cell BK323.out 1).trans rfl
           have hcz63_2 : wc.cell? ⟨gb323, 2, none⟩ = some (.slice Ao17 t331.length co17) := (blk_cell BK323.out 2).trans rfl
           have hcz63_3 : wc.cell? ⟨gb323, 3, none⟩ = some (.int .i64 t334) := (blk_cell BK323.out 3).trans rfl
           have hfz63_0 := blk_frozen BK323.out 0
           have hfz63_1 := blk_frozen BK323.out 1
           have hfz63_2 := blk_frozen BK323.out 2
           have hfz63_3 := blk_frozen BK323.out 3
           try go_wp2_with (first | ((with_reducible refine gate_callee (f := 12) rfl ?_); refine goesL_ (some 45) rfl rfl Try.func12 (by kernel_rfl) rfl #[.agg #[.slice Ao14 t325.length co14, .slice Ao16 t328.length co16, .slice Ao17 t331.length co17, .int .i64 t334]] rfl (by (try simp only [List.map_toArray, List.map_cons, List.map_nil]); first | done | rfl | (simp only [List.length_drop, List.length_take]; rfl)) ?_; (with_reducible refine (verify_Code.calls _ _ t325 _ _ t328 _ _ t331 t334 t342 _ ?side1 ?side2 ?side3 ?side4 ?side5 ?side6 A37.out).mono ?_); (case side1 => repeat (first | exact (Kd.S_reads' HO_324000.out).2.2 | (with_reducible refine Kd.C_alloc ?_ _) | (with_reducible refine Kd.C_drewN ?_ _) | (with_reducible refine Kd.C_drew ?_))); (case side2 => exact (Kd.S_reads' HO_324000.out).2.1); (case side3 => repeat (first | exact (Kd.R_reads' HO_324001.out).2.2 | (with_reducible refine Kd.C_alloc ?_ _) | (with_reducible refine Kd.C_drewN ?_ _) | (with_reducible refine Kd.C_drew ?_))); (case side4 => exact (Kd.R_reads' HO_324001.out).2.1); (case side5 => repeat (first | exact (Kd.R_reads' HO_324002.out).2.2 | (with_reducible refine Kd.C_alloc ?_ _) | (with_reducible refine Kd.C_drewN ?_ _) | (with_reducible refine Kd.C_drew ?_))); (case side6 => exact (Kd.R_reads' HO_324002.out).2.1); rintro e w64 ⟨rfl, hb⟩; refine ⟨_, rfl, ?_⟩; have n0_ := Aside0.mk (Kd.R_below (by (with_reducible repeat (first | apply Kd.R_alloc | apply Kd.R_drewN | apply Kd.R_drew)); exact HO_10.out) hb); have n1_ := Aside0.mk (Kd.S_below (by (with_reducible repeat (first | apply Kd.S_alloc | apply Kd.S_drewN | apply Kd.S_drew)); exact HO_324000.out) hb); have n2_ := Aside0.mk (Kd.R_below (by (with_reducible repeat (first | apply Kd.R_alloc | apply Kd.R_drewN | apply Kd.R_drew)); exact HO_324001.out) hb); have n3_ := Aside0.mk (Kd.R_below (by (with_reducible repeat (first | apply Kd.R_alloc | apply Kd.R_drewN | apply Kd.R_drew)); exact HO_324002.out) hb); have n4_ := Aside0.mk (blk_below (g := gb323) (o := .cells #[.slice Ao14 t325.length co14, .slice Ao16 t328.length co16, .slice Ao17 t331.length co17, .int .i64 t334] 26 (0, 0)) (by (with_reducible repeat (first | refine blk_drewN ?_ _ | refine blk_drew ?_ | refine blk_alloc ?_ _)); exact BK323.out) hb); have n5_ := Aside0.mk (blk_below (g := gb324) (o := .cells #[.int .i64 a3_0, .int .i64 a3_1, .int .i64 a3_2] 37 (0, 0)) (by (with_reducible repeat (first | refine blk_drewN ?_ _ | refine blk_drew ?_ | refine blk_alloc ?_ _)); exact BK324.out) hb); have n6_ := Aside0.mk (below_step (by repeat (first | (with_reducible first | exact HB.out | apply below_alloc | apply pw_below_drewN | apply below_drew1 | refine below_set ?_ GE323.out | refine below_set ?_ GE324.out) | exact HB.out)) hb); clear HO_10; clear HO_324000; clear HO_324001; clear HO_324002; clear BK323; clear BK324; clear HB; have HO_10 := n0_; have HO_324000 := n1_; have HO_324001 := n2_; have HO_324002 := n3_; have BK323 := n4_; have BK324 := n5_; have HB := n6_; clear n0_ n1_ n2_ n3_ n4_ n5_ n6_; (try clear hb); (try clear hb2); (try clear hk); (try clear hi)))
           have n0_ := Aside0.mk (Kd.R_drew HO_10.out)
           have n1_ := Aside0.mk (Kd.S_drew HO_324000.out)
           have n2_ := Aside0.mk (Kd.R_drew HO_324001.out)
           have n3_ := Aside0.mk (Kd.R_drew HO_324002.out)
           have n4_ := Aside0.mk (blk_drew BK323.out)
           have n5_ := Aside0.mk (blk_drew BK324.out)
           have n6_ := Aside0.mk (below_drew1 HB.out)
           clear HO_10
           clear HO_324000
           clear HO_324001
           clear HO_324002
           clear BK323
           clear BK324
           clear HB
           have HO_10 := n0_
           have HO_324000 := n1_
           have HO_324001 := n2_
           have HO_324002 := n3_
           have BK323 := n4_
           have BK324 := n5_
           have HB := n6_
           clear n0_ n1_ n2_ n3_ n4_ n5_ n6_
           have p343 : 0 ≤ (a1 : Int) := of_decide_eq_true (by first | (with_reducible assumption) | assumption)
           have q343 : a1 < (t325.length : Int) := of_decide_eq_true (by first | (with_reducible assumption) | assumption)
           obtain ⟨ad343, A343_3, c343_3, e343, hx343_0, hx343_1, hx343_2, hx343_3, hl343_3, hi343_3⟩ := at_T32 (Kd.S_reads' HO_324000.out).2.2 a1 p343 q343
           cases e343
           obtain ⟨ce343, hce343, hMe343, hcc343⟩ := Kd.S_get HO_324000.out z32 a1 p343 (by first | exact q343 | exact of_decide_eq_true (by first | (with_reducible assumption) | assumption) | (have e_ := (Kd.S_reads' HO_324000.out).1; omega))
           obtain ⟨ve343_3, rfl, ge343_3⟩ := k32_openM hMe343
           have hv343_3 := hcc343 3 _ rfl
           rw [add_field _ _ 3 (by omega)] at hv343_3
           replace hv343_3 := Option.some.inj (hv343_3.symm.trans hx343_3)
           rw [hv343_3] at ge343_3
           have HL343_3 := Aside0.mk (show Kd.R k37 37 _ _ _ _ ((rd_T32 t325 a1).f3) from ge343_3)
           clear hv343_3 ge343_3
           have HX343_3 := Aside0.mk hx343_3
           clear hcc343 hce343
           have HR343_3 := Aside0.mk hi343_3
           have HC343_3 := Aside0.mk hl343_3
           clear hi343_3 hl343_3
           replace p343 := eq_true p343
           replace q343 := eq_true q343
           have p41 : 0 ≤ ((ji30) : Int) := of_decide_eq_true (by first | (with_reducible assumption) | assumption)
           have q41 : ((ji30) : Int) < ((((rd_T32 t325 a1).f3).length : Int) : Int) := of_decide_eq_true (by first | (with_reducible assumption) | assumption)
           obtain ⟨go41, co41, eo41, gb41, gl41, cl41, HG41⟩ := Kd.R_form HL343_3.out (by omega)
           (first | cases eo41 | (injection eo41 with ea_ en_ ec_; (first | subst ea_ | (injection ea_ with ea_; subst ea_)); subst ec_; clear en_))
           have GB41 := Aside0.mk gb41
           have GG41 := Aside0.mk HG41
           clear gb41 gl41 HG41
           obtain ⟨ce41, hcl41, hM41, hcc41, hfr41⟩ := Kd.R_elem HL343_3.out z37 ((ji30) : Int) p41 q41
           obtain rfl := k37_openM hM41
           have hx41_0 : World.cell? _ ⟨go41, ((ji30) : Int).toNat * 3, none⟩ = some (.int .i64 ((rd_T37 ((rd_T32 t325 a1).f3) (ji30)).f0)) := hcc41 0 _ rfl
           have hx41_1 : World.cell? _ ⟨go41, ((ji30) : Int).toNat * 3 + 1, none⟩ = some (.int .i64 ((rd_T37 ((rd_T32 t325 a1).f3) (ji30)).f1)) := hcc41 1 _ rfl
           have hx41_2 : World.cell? _ ⟨go41, ((ji30) : Int).toNat * 3 + 2, none⟩ = some (.int .i64 ((rd_T37 ((rd_T32 t325 a1).f3) (ji30)).f2)) := hcc41 2 _ rfl
           have hf41_0 : World.frozen? _ ⟨go41, ((ji30) : Int).toNat * 3, none⟩ = false := hfr41 0
           have hf41_1 : World.frozen? _ ⟨go41, ((ji30) : Int).toNat * 3 + 1, none⟩ = false := hfr41 1
           have hf41_2 : World.frozen? _ ⟨go41, ((ji30) : Int).toNat * 3 + 2, none⟩ = false := hfr41 2
           clear hcl41 hcc41 hfr41 hM41
           replace p41 := eq_true p41
           replace q41 := eq_true q41
           have hq66 : (a1 : Int) < (t325.length : Int) := (by have h_ : (a1 : Int) < ((t325.length : Int) : Int) := of_decide_eq_true (by first | (with_reducible assumption) | assumption); first | exact h_ | (have e_ := (Kd.S_reads' HO_324000.out).1; omega) | simpa only [List.length_set, List.length_set] using h_)
           obtain ⟨oki66, ce66, hcl66, hM66, hcc66, hok66, hbk66⟩ := Kd.S_borrow HO_324000.out z32 (a1 : Int) (of_decide_eq_true (by first | (with_reducible assumption) | assumption)) hq66
           obtain ⟨ve66_3, rfl, ge66_3⟩ := k32_openM hM66
           have hv66 := hcc66 3 _ rfl
           rw [add_field _ _ 3 (by omega)] at hv66
           replace hv66 := Option.some.inj (hv66.symm.trans HX343_3.out)
           subst hv66
           clear hcc66 hcl66
           replace ge66_3 := (show Kd.R k37 37 _ _ _ _ ((rd_T32 t325 a1).f3) from ge66_3)
           obtain ⟨cf66, hcl66, hN66, hcc66, hfr66⟩ := Kd.R_elem ge66_3 z37 ((ji30) : Int) (of_decide_eq_true (by first | (with_reducible assumption) | assumption)) (by have h_ : ((ji30) : Int) < ((((rd_T32 t325 a1).f3).length : Int) : Int) := of_decide_eq_true (by first | (with_reducible assumption) | assumption); first | exact h_ | (have e_ := (Kd.R_reads' HR343_3.out).1; omega) | simpa using h_)
           obtain rfl := k37_openM hN66
           have HP66 := Kd.R_seg ge66_3 ((ji30) : Int) (of_decide_eq_true (by first | (with_reducible assumption) | assumption)) (by have h_ : ((ji30) : Int) < ((((rd_T32 t325 a1).f3).length : Int) : Int) := of_decide_eq_true (by first | (with_reducible assumption) | assumption); first | exact h_ | (have e_ := (Kd.R_reads' HR343_3.out).1; omega) | simpa using h_) (seg := [.int .i64 a3_0, .int .i64 a3_1, .int .i64 a3_2]) (j := 0) hcl66 hcc66 (show 3 ≤ 3 from by decide) (x' := (⟨a3_0, a3_1, a3_2⟩ : S37)) (k37_mkM _ _ _ (⟨a3_0, a3_1, a3_2⟩ : S37)) (fun _ hk => hk)
           clear hcl66 hcc66 hfr66 hN66
           rw [← Ny344.out] at HP66
           have HS66 := hbk66 HP66.2 (fun k_ e_ => by injection e_ with e_; subst e_; exact ge66_3.1 _ rfl) (x' := (⟨(rd_T32 t325 a1).f0, (rd_T32 t325 a1).f1, (rd_T32 t325 a1).f2, y344⟩ : S32)) (k32_mkM _ _ _ (⟨(rd_T32 t325 a1).f0, (rd_T32 t325 a1).f1, (rd_T32 t325 a1).f2, y344⟩ : S32) HP66.1)
           rw [← Ny346.out] at HS66
           have HQ66 := Aside0.mk HS66
           clear HP66 HS66 hbk66 hok66
           refine start_ (n := 10) (S := fun w' => w'.cell? ⟨gb323, 0, none⟩ = some (.slice (some ad343) t325.length co14) ∧ w'.cell? ⟨gb323, 1, none⟩ = some (.slice Ao16 t328.length co16) ∧ w'.cell? ⟨gb323, 2, none⟩ = some (.slice Ao17 t331.length co17) ∧ w'.cell? ⟨gb323, 3, none⟩ = some (.int .i64 t334) ∧ w'.cell? ⟨gb324, 0, none⟩ = some (.int .i64 a3_0) ∧ w'.cell? ⟨gb324, 1, none⟩ = some (.int .i64 a3_1) ∧ w'.cell? ⟨gb324, 2, none⟩ = some (.int .i64 a3_2) ∧ w'.cell? (ad343.add ((a1).toNat * 4)) = some (.int .i64 ((rd_T32 t325 a1).f0)) ∧ w'.cell? ⟨(ad343.add ((a1).toNat * 4)).block, (ad343.add ((a1).toNat * 4)).off + 1, none⟩ = some (.int .i64 ((rd_T32 t325 a1).f1)) ∧ w'.cell? ⟨(ad343.add ((a1).toNat * 4)).block, (ad343.add ((a1).toNat * 4)).off + 2, none⟩ = some (.int .i64 ((rd_T32 t325 a1).f2)) ∧ w'.cell? ⟨(ad343.add ((a1).toNat * 4)).block, (ad343.add ((a1).toNat * 4)).off + 3, none⟩ = some (.slice (some ⟨go41, 0, none⟩) ((rd_T32 t325 a1).f3).length c343_3)) (ds := [9]) #[false, false, false, false, false, false, false, false, false, false] (by kernel_rfl) rfl rfl ⟨(blk_cell BK323.out 0).trans rfl, (blk_cell BK323.out 1).trans rfl, (blk_cell BK323.out 2).trans rfl, (blk_cell BK323.out 3).trans rfl, (blk_cell BK324.out 0).trans rfl, (blk_cell BK324.out 1).trans rfl, (blk_cell BK324.out 2).trans rfl, hx343_0, hx343_1, hx343_2, hx343_3⟩ (fun hHeld => ?_); refine with_tabW selvagelaw14_VerifyBehind.tab12 selvagelaw14_VerifyBehind.bits12 (fun HT_ HW_ => ?_)
           generalize w64.drew = w65 at HO_10 HO_324000 HO_324001 HO_324002 BK323 BK324 HB GG41 HL343_3 HQ66 HR343_3 HX343_3 hf41_0 hf41_1 hf41_2 hx343_0 hx343_1 hx343_2 hx343_3 hx41_0 hx41_1 hx41_2 hHeld ⊢
           refine pure_ (i := 0) (N := some 46) (v := ?_) (a' := ?_) #[true, false, false, false, false, false, false, false, false, false] rfl rfl (any_of HT_.out (by kernel_rfl)) (fun _ _ _ h => h) (Or.inl ⟨by rfl, ?_⟩) ?_ ?_
           rotate_left
           ·intro w'
            go_simp
            with_reducible rfl
           rotate_left
           ·simp only [Act.put, List.setIfInBounds_toArray, List.set_cons_zero, List.set_cons_succ, i64_w, i32_w]
            rfl
           refine pure_ (i := 2) (N := some 48) (v := ?_) (a' := ?_) #[true, false, true, false, false, false, false, false, false, false] rfl rfl (any_of HT_.out (by kernel_rfl)) (fun _ _ _ h => h) (Or.inl ⟨by rfl, ?_⟩) ?_ ?_
           rotate_left
           ·intro w'
            go_simp
            with_reducible rfl
           rotate_left
           ·simp only [Act.put, List.setIfInBounds_toArray, List.set_cons_zero, List.set_cons_succ, i64_w, i32_w]
            rfl
           refine pure_ (i := 6) (N := some 52) (v := ?_) (a' := ?_) #[true, false, true, false, false, false, true, false, false, false] rfl rfl (any_of HT_.out (by kernel_rfl)) (fun _ _ _ h => h) (Or.inl ⟨by rfl, ?_⟩) ?_ ?_
           rotate_left
           ·intro w'
            go_simp
            with_reducible rfl
           rotate_left
           ·simp only [Act.put, List.setIfInBounds_toArray, List.set_cons_zero, List.set_cons_succ, i64_w, i32_w]
            rfl
           refine take_ (i := 1) (N := some 47) (v := ?_) (a' := ?_) #[true, true, true, false, false, false, true, false, false, false] rfl rfl (take_ofW HT_.out HW_.out (by kernel_rfl)) (fun _ _ _ h => h) (Or.inl ⟨by rfl, ?_⟩) hHeld ?_ ?_
           rotate_left
           ·rintro w' ⟨s0, s1, s2, s3, s4, s5, s6, s7, s8, s9, s10⟩
            go_simp
            with_reducible rfl
           rotate_left
           ·simp only [Act.put, List.setIfInBounds_toArray, List.set_cons_zero, List.set_cons_succ, i64_w, i32_w]
            rfl
           refine pure_ (i := 3) (N := some 49) (v := ?_) (a' := ?_) #[true, true, true, true, false, false, true, false, false, false] rfl rfl (any_of HT_.out (by kernel_rfl)) (fun _ _ _ h => h) (Or.inl ⟨by rfl, ?_⟩) ?_ ?_
           rotate_left
           ·intro w'
            go_simp
            with_reducible rfl
           rotate_left
           ·simp only [Act.put, List.setIfInBounds_toArray, List.set_cons_zero, List.set_cons_succ, i64_w, i32_w]
            rfl
           refine pure_ (i := 4) (N := some 50) (v := ?_) (a' := ?_) #[true, true, true, true, true, false, true, false, false, false] rfl rfl (any_of HT_.out (by kernel_rfl)) (fun _ _ _ h => h) (Or.inl ⟨by rfl, ?_⟩) ?_ ?_
           rotate_left
           ·intro w'
            go_simp
            with_reducible rfl
           rotate_left
           ·simp only [Act.put, List.setIfInBounds_toArray, List.set_cons_zero, List.set_cons_succ, i64_w, i32_w]
            rfl
           refine take_ (i := 5) (N := some 51) (v := ?_) (a' := ?_) #[true, true, true, true, true, true, true, false, false, false] rfl rfl (take_ofW HT_.out HW_.out (by kernel_rfl)) (fun _ _ _ h => h) (Or.inl ⟨by rfl, ?_⟩) hHeld ?_ ?_
           rotate_left
           ·rintro w' ⟨s0, s1, s2, s3, s4, s5, s6, s7, s8, s9, s10⟩
            go_simp
            with_reducible rfl
           rotate_left
           ·simp only [Act.put, List.setIfInBounds_toArray, List.set_cons_zero, List.set_cons_succ, i64_w, i32_w]
            rfl
           refine take_ (i := 7) (N := some 53) (v := ?_) (a' := ?_) #[true, true, true, true, true, true, true, true, false, false] rfl rfl (take_ofW HT_.out HW_.out (by kernel_rfl)) (fun _ _ _ h => h) (Or.inl ⟨by rfl, ?_⟩) hHeld ?_ ?_
           rotate_left
           ·rintro w' ⟨s0, s1, s2, s3, s4, s5, s6, s7, s8, s9, s10⟩
            go_simp
            with_reducible rfl
           rotate_left
           ·simp only [Act.put, List.setIfInBounds_toArray, List.set_cons_zero, List.set_cons_succ, i64_w, i32_w]
            rfl
           refine pure_ (i := 8) (N := some 54) (v := ?_) (a' := ?_) #[true, true, true, true, true, true, true, true, true, false] rfl rfl (any_of HT_.out (by kernel_rfl)) (fun _ _ _ h => h) (Or.inl ⟨by rfl, ?_⟩) ?_ ?_
           rotate_left
           ·intro w'
            go_simp
            with_reducible rfl
           rotate_left
           ·simp only [Act.put, List.setIfInBounds_toArray, List.set_cons_zero, List.set_cons_succ, i64_w, i32_w]
            rfl
           refine last_ (i := 9) (N := none) #[true, true, true, true, true, true, true, true, true, true] rfl rfl (one_of HT_.out (by kernel_rfl)) (by decide) (fun K hK => ?_)
           refine skip_ (w1 := ?_) (by rfl) rfl ?_ ?_
           rotate_left
           ·go_simp
            rfl
           refine hK.out _ _ ?_
           clear hK K
           refine done_ (done_of HT_.out (by kernel_rfl)) ?_
           have hcz68_0 : w65.cell? ⟨gb323, 0, none⟩ = some (.slice (some ad343) t325.length co14) := (blk_cell BK323.out 0).trans rfl
           have hneF : go41 ≠ gb323 := blk_ne GG41.out BK323.out (by decide)
           have hfaF : ∀ (W : World) (i j : Nat) (x : Value), (W.setCell ⟨go41, i, none⟩ x).cell? ⟨gb323, j, none⟩ = W.cell? ⟨gb323, j, none⟩ := fun W i j x => World.cell?_setCell_far W ⟨go41, i, none⟩ ⟨gb323, j, none⟩ x hneF
           have hcz68_1 : w65.cell? ⟨gb323, 1, none⟩ = some (.slice Ao16 t328.length co16) := (blk_cell BK323.out 1).trans rfl
           have hcz68_2 : w65.cell? ⟨gb323, 2, none⟩ = some (.slice Ao17 t331.length co17) := (blk_cell BK323.out 2).trans rfl
           have hcz68_3 : w65.cell? ⟨gb323, 3, none⟩ = some (.int .i64 t334) := (blk_cell BK323.out 3).trans rfl
           have hfz68_0 := blk_frozen BK323.out 0
           have hfz68_1 := blk_frozen BK323.out 1
           have hfz68_2 := blk_frozen BK323.out 2
           have hfz68_3 := blk_frozen BK323.out 3
           try go_wp2_with (first | ((with_reducible refine gate_callee (f := 9) rfl ?_); refine goesL_ (some 57) rfl rfl Try.func9 (by kernel_rfl) rfl #[.agg #[.slice (some ad343) y346.length co14, .slice Ao16 t328.length co16, .slice Ao17 t331.length co17, .int .i64 t334], .int .i64 a1] rfl (by (try simp only [List.map_toArray, List.map_cons, List.map_nil]); first | done | (rw [show y346.length = t325.length from (Kd.S_reads' HQ66.out).1.symm] <;> rfl) | rfl | (simp only [List.length_drop, List.length_take]; rfl)) ?_; (with_reducible refine (verify_Depths.calls _ _ y346 _ _ t328 _ _ t331 t334 a1 t347 _ ?side1 ?side2 ?side3 ?side4 ?side5 ?side6 A42.out).mono ?_); (case side1 => refine (Kd.S_reads' (e := 32) (base := w.heap.size) (ok := fun k_ => k_ ≠ gb324) (n := t325.length) (c := co14) ?_).2.2; exact (by (with_reducible repeat (first | apply Kd.S_alloc | apply Kd.S_drewN | apply Kd.S_drew)); exact HQ66.out)); (case side2 => rw [show y346.length = t325.length from (Kd.S_reads' HQ66.out).1.symm]; exact (Kd.S_reads' HO_324000.out).2.1); (case side3 => refine (Kd.R_reads' (e := 3) (base := w.heap.size) (ok := fun k_ => some k_ ≠ (.slice (some ad340) t336.length co61 : Value).ownBlock) (n := t328.length) (c := co16) ?_).2.2; exact (by (with_reducible repeat (first | apply Kd.R_alloc | apply Kd.R_drewN | apply Kd.R_drew)); exact (Kd.R_mono (Kd.R_far (p := ⟨go41, ((ji30) : Int).toNat * 3 + 2, none⟩) (Kd.R_far (p := ⟨go41, ((ji30) : Int).toNat * 3 + 1, none⟩) (Kd.R_far (p := ⟨go41, ((ji30) : Int).toNat * 3, none⟩) (Kd.R_types HO_324001.out GG41.out (by decide)) (fun _ hk => hk.2) (.int .i64 a3_0)) (fun _ hk => hk.2) (.int .i64 a3_1)) (fun _ hk => hk.2) (.int .i64 a3_2)) (fun _ h_ => h_.1)))); (case side4 => exact (Kd.R_reads' HO_324001.out).2.1); (case side5 => refine (Kd.R_reads' (e := 9) (base := w.heap.size) (ok := fun k_ => True) (n := t331.length) (c := co17) ?_).2.2; exact (by (with_reducible repeat (first | apply Kd.R_alloc | apply Kd.R_drewN | apply Kd.R_drew)); exact (Kd.R_mono (Kd.R_far (p := ⟨go41, ((ji30) : Int).toNat * 3 + 2, none⟩) (Kd.R_far (p := ⟨go41, ((ji30) : Int).toNat * 3 + 1, none⟩) (Kd.R_far (p := ⟨go41, ((ji30) : Int).toNat * 3, none⟩) (Kd.R_types HO_324002.out GG41.out (by decide)) (fun _ hk => hk.2) (.int .i64 a3_0)) (fun _ hk => hk.2) (.int .i64 a3_1)) (fun _ hk => hk.2) (.int .i64 a3_2)) (fun _ h_ => h_.1)))); (case side6 => exact (Kd.R_reads' HO_324002.out).2.1); rintro e w69 ⟨v348, rfl, ho0, hb⟩; refine ⟨_, rfl, ?_⟩; have n0_ := Aside0.mk (Kd.R_elder' (by (with_reducible repeat (first | apply Kd.R_alloc | apply Kd.R_drewN | apply Kd.R_drew)); exact (Kd.R_mono (Kd.R_far (p := ⟨go41, ((ji30) : Int).toNat * 3 + 2, none⟩) (Kd.R_far (p := ⟨go41, ((ji30) : Int).toNat * 3 + 1, none⟩) (Kd.R_far (p := ⟨go41, ((ji30) : Int).toNat * 3, none⟩) (Kd.R_types HO_10.out GG41.out (by decide)) (fun _ hk => hk.2) (.int .i64 a3_0)) (fun _ hk => hk.2) (.int .i64 a3_1)) (fun _ hk => hk.2) (.int .i64 a3_2)) (fun _ h_ => h_.1))) (Kd.R_base ho0) hb); have n1_ := Aside0.mk (Kd.S_below (by (with_reducible repeat (first | apply Kd.S_alloc | apply Kd.S_drewN | apply Kd.S_drew)); exact HQ66.out) hb); have n2_ := Aside0.mk (Kd.R_elder' (by (with_reducible repeat (first | apply Kd.R_alloc | apply Kd.R_drewN | apply Kd.R_drew)); exact (Kd.R_mono (Kd.R_far (p := ⟨go41, ((ji30) : Int).toNat * 3 + 2, none⟩) (Kd.R_far (p := ⟨go41, ((ji30) : Int).toNat * 3 + 1, none⟩) (Kd.R_far (p := ⟨go41, ((ji30) : Int).toNat * 3, none⟩) (Kd.R_types HO_324001.out GG41.out (by decide)) (fun _ hk => hk.2) (.int .i64 a3_0)) (fun _ hk => hk.2) (.int .i64 a3_1)) (fun _ hk => hk.2) (.int .i64 a3_2)) (fun _ h_ => h_.1))) (Kd.R_base ho0) hb); have n3_ := Aside0.mk (Kd.R_below (by (with_reducible repeat (first | apply Kd.R_alloc | apply Kd.R_drewN | apply Kd.R_drew)); exact (Kd.R_mono (Kd.R_far (p := ⟨go41, ((ji30) : Int).toNat * 3 + 2, none⟩) (Kd.R_far (p := ⟨go41, ((ji30) : Int).toNat * 3 + 1, none⟩) (Kd.R_far (p := ⟨go41, ((ji30) : Int).toNat * 3, none⟩) (Kd.R_types HO_324002.out GG41.out (by decide)) (fun _ hk => hk.2) (.int .i64 a3_0)) (fun _ hk => hk.2) (.int .i64 a3_1)) (fun _ hk => hk.2) (.int .i64 a3_2)) (fun _ h_ => h_.1))) hb); have n4_ := Aside0.mk (Kd.R_lower (Kd.R_new' (Kd.R_new' ho0 (Kd.R_lt (by (with_reducible repeat (first | apply Kd.R_alloc | apply Kd.R_drewN | apply Kd.R_drew)); exact (Kd.R_mono (Kd.R_far (p := ⟨go41, ((ji30) : Int).toNat * 3 + 2, none⟩) (Kd.R_far (p := ⟨go41, ((ji30) : Int).toNat * 3 + 1, none⟩) (Kd.R_far (p := ⟨go41, ((ji30) : Int).toNat * 3, none⟩) (Kd.R_types HO_10.out GG41.out (by decide)) (fun _ hk => hk.2) (.int .i64 a3_0)) (fun _ hk => hk.2) (.int .i64 a3_1)) (fun _ hk => hk.2) (.int .i64 a3_2)) (fun _ h_ => h_.1))))) (Kd.R_lt (by (with_reducible repeat (first | apply Kd.R_alloc | apply Kd.R_drewN | apply Kd.R_drew)); exact (Kd.R_mono (Kd.R_far (p := ⟨go41, ((ji30) : Int).toNat * 3 + 2, none⟩) (Kd.R_far (p := ⟨go41, ((ji30) : Int).toNat * 3 + 1, none⟩) (Kd.R_far (p := ⟨go41, ((ji30) : Int).toNat * 3, none⟩) (Kd.R_types HO_324001.out GG41.out (by decide)) (fun _ hk => hk.2) (.int .i64 a3_0)) (fun _ hk => hk.2) (.int .i64 a3_1)) (fun _ hk => hk.2) (.int .i64 a3_2)) (fun _ h_ => h_.1))))) (below_size (by repeat (first | (with_reducible first | exact HB.out | apply below_alloc | apply pw_below_drewN | apply below_drew1 | refine below_set ?_ GB41.out | refine below_set ?_ GB41.out | refine below_set ?_ GB41.out | refine below_set ?_ GE323.out | refine below_set ?_ GE324.out) | exact HB.out)))); have n5_ := Aside0.mk (blk_below (g := gb323) (o := .cells #[.slice (some ad343) t325.length co14, .slice Ao16 t328.length co16, .slice Ao17 t331.length co17, .int .i64 t334] 26 (0, 0)) (by (with_reducible repeat (first | refine blk_drewN ?_ _ | refine blk_drew ?_ | refine blk_alloc ?_ _)); refine blk_far ?_ (by have h_ := Kd.R_ne HL343_3.out BK323.out (by decide); intro e_; exact h_ (by rw [e_]; rfl)) _; (with_reducible repeat (first | refine blk_drewN ?_ _ | refine blk_drew ?_ | refine blk_alloc ?_ _)); refine blk_far ?_ (by have h_ := Kd.R_ne HL343_3.out BK323.out (by decide); intro e_; exact h_ (by rw [e_]; rfl)) _; (with_reducible repeat (first | refine blk_drewN ?_ _ | refine blk_drew ?_ | refine blk_alloc ?_ _)); refine blk_far ?_ (by have h_ := Kd.R_ne HL343_3.out BK323.out (by decide); intro e_; exact h_ (by rw [e_]; rfl)) _; (with_reducible repeat (first | refine blk_drewN ?_ _ | refine blk_drew ?_ | refine blk_alloc ?_ _)); exact BK323.out) hb); have n6_ := Aside0.mk (blk_below (g := gb324) (o := .cells #[.int .i64 a3_0, .int .i64 a3_1, .int .i64 a3_2] 37 (0, 0)) (by (with_reducible repeat (first | refine blk_drewN ?_ _ | refine blk_drew ?_ | refine blk_alloc ?_ _)); refine blk_far ?_ (by have h_ := Kd.R_away HL343_3.out (fun _ hk => hk.1); intro e_; exact h_ (by rw [e_]; rfl)) _; (with_reducible repeat (first | refine blk_drewN ?_ _ | refine blk_drew ?_ | refine blk_alloc ?_ _)); refine blk_far ?_ (by have h_ := Kd.R_away HL343_3.out (fun _ hk => hk.1); intro e_; exact h_ (by rw [e_]; rfl)) _; (with_reducible repeat (first | refine blk_drewN ?_ _ | refine blk_drew ?_ | refine blk_alloc ?_ _)); refine blk_far ?_ (by have h_ := Kd.R_away HL343_3.out (fun _ hk => hk.1); intro e_; exact h_ (by rw [e_]; rfl)) _; (with_reducible repeat (first | refine blk_drewN ?_ _ | refine blk_drew ?_ | refine blk_alloc ?_ _)); exact BK324.out) hb); have n7_ := Aside0.mk (below_step (by repeat (first | (with_reducible first | exact HB.out | apply below_alloc | apply pw_below_drewN | apply below_drew1 | refine below_set ?_ GB41.out | refine below_set ?_ GB41.out | refine below_set ?_ GB41.out | refine below_set ?_ GE323.out | refine below_set ?_ GE324.out) | exact HB.out)) hb); clear HO_10; clear HO_324000; clear HO_324001; clear HO_324002; clear BK323; clear BK324; clear HB; have HO_10 := n0_; have HO_324000 := n1_; have HO_324001 := n2_; have HO_324002 := n3_; have HO349 := n4_; have BK323 := n5_; have BK324 := n6_; have HB := n7_; clear n0_ n1_ n2_ n3_ n4_ n5_ n6_ n7_; (try clear hb); (try clear hb2); (try clear hk); (try clear hi); (try clear ho0); obtain ⟨Ao70, co70, eo70⟩ := Kd.R_slice HO349.out; subst eo70) | ((with_reducible refine gate_callee (f := 14) rfl ?_); refine goesL_ (some 59) rfl rfl Try.func14 (by kernel_rfl) rfl #[.slice Ao70 t347.length co70, .slice (some ad340) t336.length co61] rfl (by (try simp only [List.map_toArray, List.map_cons, List.map_nil]); first | done | rfl | (simp only [List.length_drop, List.length_take]; rfl)) ?_; (with_reducible refine (selvageref02_SameInts.calls kj26 _ _ t347 _ _ t336 true _ ?side1 ?side2 ?side3 ?side4 A43.out).mono ?_); (case side1 => repeat (first | exact (Kd.R_reads' HO349.out).2.2 | (with_reducible refine Kd.C_alloc ?_ _) | (with_reducible refine Kd.C_drewN ?_ _) | (with_reducible refine Kd.C_drew ?_))); (case side2 => exact (Kd.R_reads' HO349.out).2.1); (case side3 => repeat (first | exact (Kd.R_reads' HO_10.out).2.2 | (with_reducible refine Kd.C_alloc ?_ _) | (with_reducible refine Kd.C_drewN ?_ _) | (with_reducible refine Kd.C_drew ?_))); (case side4 => exact (Kd.R_reads' HO_10.out).2.1); rintro e w' ⟨rfl, ⟨nd, rfl⟩⟩; refine ⟨_, rfl, ?_⟩; have hcz71_0 : w69.cell? ⟨gb323, 0, none⟩ = some (.slice (some ad343) t325.length co14) := (blk_cell BK323.out 0).trans rfl; have hcz71_1 : w69.cell? ⟨gb323, 1, none⟩ = some (.slice Ao16 t328.length co16) := (blk_cell BK323.out 1).trans rfl; have hcz71_2 : w69.cell? ⟨gb323, 2, none⟩ = some (.slice Ao17 t331.length co17) := (blk_cell BK323.out 2).trans rfl; have hcz71_3 : w69.cell? ⟨gb323, 3, none⟩ = some (.int .i64 t334) := (blk_cell BK323.out 3).trans rfl; have hfz71_0 := blk_frozen BK323.out 0; have hfz71_1 := blk_frozen BK323.out 1; have hfz71_2 := blk_frozen BK323.out 2; have hfz71_3 := blk_frozen BK323.out 3) | (go_at_call 12; refine calls_of_args (args' := #[.agg #[.slice (some ad343) y346.length co14, .slice Ao16 t328.length co16, .slice Ao17 t331.length co17, .int .i64 t334]]) (by first | (rw [show y346.length = t325.length from (Kd.S_reads' HO_324000.out).1.symm] <;> rfl) | rfl) ?_; (with_reducible refine (verify_Code.calls _ _ y346 _ _ t328 _ _ t331 t334 t351 _ ?side1 ?side2 ?side3 ?side4 ?side5 ?side6 A45.out).mono ?_); (case side1 => repeat (first | exact (Kd.S_reads' HO_324000.out).2.2 | (with_reducible refine Kd.C_alloc ?_ _) | (with_reducible refine Kd.C_drewN ?_ _) | (with_reducible refine Kd.C_drew ?_))); (case side2 => rw [show y346.length = t325.length from (Kd.S_reads' HO_324000.out).1.symm]; exact (Kd.S_reads' HO_324000.out).2.1); (case side3 => repeat (first | exact (Kd.R_reads' HO_324001.out).2.2 | (with_reducible refine Kd.C_alloc ?_ _) | (with_reducible refine Kd.C_drewN ?_ _) | (with_reducible refine Kd.C_drew ?_))); (case side4 => exact (Kd.R_reads' HO_324001.out).2.1); (case side5 => repeat (first | exact (Kd.R_reads' HO_324002.out).2.2 | (with_reducible refine Kd.C_alloc ?_ _) | (with_reducible refine Kd.C_drewN ?_ _) | (with_reducible refine Kd.C_drew ?_))); (case side6 => exact (Kd.R_reads' HO_324002.out).2.1); rintro e w72 ⟨rfl, hb⟩; have n0_ := Aside0.mk (Kd.R_below (by (with_reducible repeat (first | apply Kd.R_alloc | apply Kd.R_drewN | apply Kd.R_drew)); exact HO_10.out) hb); have n1_ := Aside0.mk (Kd.S_below (by (with_reducible repeat (first | apply Kd.S_alloc | apply Kd.S_drewN | apply Kd.S_drew)); exact HO_324000.out) hb); have n2_ := Aside0.mk (Kd.R_below (by (with_reducible repeat (first | apply Kd.R_alloc | apply Kd.R_drewN | apply Kd.R_drew)); exact HO_324001.out) hb); have n3_ := Aside0.mk (Kd.R_below (by (with_reducible repeat (first | apply Kd.R_alloc | apply Kd.R_drewN | apply Kd.R_drew)); exact HO_324002.out) hb); have n4_ := Aside0.mk (Kd.R_below (by (with_reducible repeat (first | apply Kd.R_alloc | apply Kd.R_drewN | apply Kd.R_drew)); exact HO349.out) hb); have n5_ := Aside0.mk (blk_below (g := gb323) (o := .cells #[.slice (some ad343) t325.length co14, .slice Ao16 t328.length co16, .slice Ao17 t331.length co17, .int .i64 t334] 26 (0, 0)) (by (with_reducible repeat (first | refine blk_drewN ?_ _ | refine blk_drew ?_ | refine blk_alloc ?_ _)); exact BK323.out) hb); have n6_ := Aside0.mk (blk_below (g := gb324) (o := .cells #[.int .i64 a3_0, .int .i64 a3_1, .int .i64 a3_2] 37 (0, 0)) (by (with_reducible repeat (first | refine blk_drewN ?_ _ | refine blk_drew ?_ | refine blk_alloc ?_ _)); exact BK324.out) hb); have n7_ := Aside0.mk (below_step (by repeat (first | (with_reducible first | exact HB.out | apply below_alloc | apply pw_below_drewN | apply below_drew1 | refine below_set ?_ GE323.out | refine below_set ?_ GE324.out) | exact HB.out)) hb); clear HO_10; clear HO_324000; clear HO_324001; clear HO_324002; clear HO349; clear BK323; clear BK324; clear HB; have HO_10 := n0_; have HO_324000 := n1_; have HO_324001 := n2_; have HO_324002 := n3_; have HO349 := n4_; have BK323 := n5_; have BK324 := n6_; have HB := n7_; clear n0_ n1_ n2_ n3_ n4_ n5_ n6_ n7_; (try clear hb); (try clear hb2); (try clear hk); (try clear hi)))
           go_ret
           exact ⟨by first | rfl | (simp [errW_none, errW_some] <;> rfl) | (simp only [← hji30]; first | rfl | (simp [errW_none, errW_some] <;> rfl)) | (simp [*, errW_none, errW_some] <;> rfl), by repeat (first | (with_reducible first | exact HB.out | apply below_alloc | apply pw_below_drewN | apply below_drew1 | refine below_set ?_ GE323.out | refine below_set ?_ GE324.out) | exact HB.out)⟩
          replace c44 := Bool.eq_false_iff.mpr c44
          subst c44
          have H1 : (some false) = some r := by rw [if_neg (show ¬ (false = true) by decide)] at H; exact H
          clear H
          have H := H1
          clear H1
          obtain rfl := Option.some.inj H
          obtain ⟨Ao73, co73, eo73⟩ := Kd.R_slice HO_10.out
          subst eo73
          have p340 : 0 ≤ ((ji30) : Int) := of_decide_eq_true (by first | (with_reducible assumption) | assumption)
          have q340 : (ji30) < (t336.length : Int) := of_decide_eq_true (by first | (with_reducible assumption) | assumption)
          obtain ⟨ad340, e340, hx340_0⟩ := Kd.at_int (Kd.R_reads' HO_10.out).2.2 (ji30) p340 q340
          cases e340
          replace p340 := eq_true p340
          replace q340 := eq_true q340
          have hnb74 := NB323_324.out
          have hnc74 := NB324_323.out
          have hcz75_0 : wc.cell? ⟨gb323, 0, none⟩ = some (.slice Ao14 t325.length co14) := (blk_cell BK323.out 0).trans rfl
          have hcz75_1 : wc.cell? ⟨gb323, 1, none⟩ = some (.slice Ao16 t328.length co16) := (blk_cell BK323.out 1).trans rfl
          have hcz75_2 : wc.cell? ⟨gb323, 2, none⟩ = some (.slice Ao17 t331.length co17) := (blk_cell BK323.out 2).trans rfl
          have hcz75_3 : wc.cell? ⟨gb323, 3, none⟩ = some (.int .i64 t334) := (blk_cell BK323.out 3).trans rfl
          have hfz75_0 := blk_frozen BK323.out 0
          have hfz75_1 := blk_frozen BK323.out 1
          have hfz75_2 := blk_frozen BK323.out 2
          have hfz75_3 := blk_frozen BK323.out 3
          try go_wp2_with (first | ((with_reducible refine gate_callee (f := 12) rfl ?_); refine goesL_ (some 45) rfl rfl Try.func12 (by kernel_rfl) rfl #[.agg #[.slice Ao14 t325.length co14, .slice Ao16 t328.length co16, .slice Ao17 t331.length co17, .int .i64 t334]] rfl (by (try simp only [List.map_toArray, List.map_cons, List.map_nil]); first | done | rfl | (simp only [List.length_drop, List.length_take]; rfl)) ?_; (with_reducible refine (verify_Code.calls _ _ t325 _ _ t328 _ _ t331 t334 t342 _ ?side1 ?side2 ?side3 ?side4 ?side5 ?side6 A37.out).mono ?_); (case side1 => repeat (first | exact (Kd.S_reads' HO_324000.out).2.2 | (with_reducible refine Kd.C_alloc ?_ _) | (with_reducible refine Kd.C_drewN ?_ _) | (with_reducible refine Kd.C_drew ?_))); (case side2 => exact (Kd.S_reads' HO_324000.out).2.1); (case side3 => repeat (first | exact (Kd.R_reads' HO_324001.out).2.2 | (with_reducible refine Kd.C_alloc ?_ _) | (with_reducible refine Kd.C_drewN ?_ _) | (with_reducible refine Kd.C_drew ?_))); (case side4 => exact (Kd.R_reads' HO_324001.out).2.1); (case side5 => repeat (first | exact (Kd.R_reads' HO_324002.out).2.2 | (with_reducible refine Kd.C_alloc ?_ _) | (with_reducible refine Kd.C_drewN ?_ _) | (with_reducible refine Kd.C_drew ?_))); (case side6 => exact (Kd.R_reads' HO_324002.out).2.1); rintro e w76 ⟨rfl, hb⟩; refine ⟨_, rfl, ?_⟩; have n0_ := Aside0.mk (Kd.R_below (by (with_reducible repeat (first | apply Kd.R_alloc | apply Kd.R_drewN | apply Kd.R_drew)); exact HO_10.out) hb); have n1_ := Aside0.mk (Kd.S_below (by (with_reducible repeat (first | apply Kd.S_alloc | apply Kd.S_drewN | apply Kd.S_drew)); exact HO_324000.out) hb); have n2_ := Aside0.mk (Kd.R_below (by (with_reducible repeat (first | apply Kd.R_alloc | apply Kd.R_drewN | apply Kd.R_drew)); exact HO_324001.out) hb); have n3_ := Aside0.mk (Kd.R_below (by (with_reducible repeat (first | apply Kd.R_alloc | apply Kd.R_drewN | apply Kd.R_drew)); exact HO_324002.out) hb); have n4_ := Aside0.mk (blk_below (g := gb323) (o := .cells #[.slice Ao14 t325.length co14, .slice Ao16 t328.length co16, .slice Ao17 t331.length co17, .int .i64 t334] 26 (0, 0)) (by (with_reducible repeat (first | refine blk_drewN ?_ _ | refine blk_drew ?_ | refine blk_alloc ?_ _)); exact BK323.out) hb); have n5_ := Aside0.mk (blk_below (g := gb324) (o := .cells #[.int .i64 a3_0, .int .i64 a3_1, .int .i64 a3_2] 37 (0, 0)) (by (with_reducible repeat (first | refine blk_drewN ?_ _ | refine blk_drew ?_ | refine blk_alloc ?_ _)); exact BK324.out) hb); have n6_ := Aside0.mk (below_step (by repeat (first | (with_reducible first | exact HB.out | apply below_alloc | apply pw_below_drewN | apply below_drew1 | refine below_set ?_ GE323.out | refine below_set ?_ GE324.out) | exact HB.out)) hb); clear HO_10; clear HO_324000; clear HO_324001; clear HO_324002; clear BK323; clear BK324; clear HB; have HO_10 := n0_; have HO_324000 := n1_; have HO_324001 := n2_; have HO_324002 := n3_; have BK323 := n4_; have BK324 := n5_; have HB := n6_; clear n0_ n1_ n2_ n3_ n4_ n5_ n6_; (try clear hb); (try clear hb2); (try clear hk); (try clear hi)))
          have n0_ := Aside0.mk (Kd.R_drew HO_10.out)
          have n1_ := Aside0.mk (Kd.S_drew HO_324000.out)
          have n2_ := Aside0.mk (Kd.R_drew HO_324001.out)
          have n3_ := Aside0.mk (Kd.R_drew HO_324002.out)
          have n4_ := Aside0.mk (blk_drew BK323.out)
          have n5_ := Aside0.mk (blk_drew BK324.out)
          have n6_ := Aside0.mk (below_drew1 HB.out)
          clear HO_10
          clear HO_324000
          clear HO_324001
          clear HO_324002
          clear BK323
          clear BK324
          clear HB
          have HO_10 := n0_
          have HO_324000 := n1_
          have HO_324001 := n2_
          have HO_324002 := n3_
          have BK323 := n4_
          have BK324 := n5_
          have HB := n6_
          clear n0_ n1_ n2_ n3_ n4_ n5_ n6_
          have p343 : 0 ≤ (a1 : Int) := of_decide_eq_true (by first | (with_reducible assumption) | assumption)
          have q343 : a1 < (t325.length : Int) := of_decide_eq_true (by first | (with_reducible assumption) | assumption)
          obtain ⟨ad343, A343_3, c343_3, e343, hx343_0, hx343_1, hx343_2, hx343_3, hl343_3, hi343_3⟩ := at_T32 (Kd.S_reads' HO_324000.out).2.2 a1 p343 q343
          cases e343
          obtain ⟨ce343, hce343, hMe343, hcc343⟩ := Kd.S_get HO_324000.out z32 a1 p343 (by first | exact q343 | exact of_decide_eq_true (by first | (with_reducible assumption) | assumption) | (have e_ := (Kd.S_reads' HO_324000.out).1; omega))
          obtain ⟨ve343_3, rfl, ge343_3⟩ := k32_openM hMe343
          have hv343_3 := hcc343 3 _ rfl
          rw [add_field _ _ 3 (by omega)] at hv343_3
          replace hv343_3 := Option.some.inj (hv343_3.symm.trans hx343_3)
          rw [hv343_3] at ge343_3
          have HL343_3 := Aside0.mk (show Kd.R k37 37 _ _ _ _ ((rd_T32 t325 a1).f3) from ge343_3)
          clear hv343_3 ge343_3
          have HX343_3 := Aside0.mk hx343_3
          clear hcc343 hce343
          have HR343_3 := Aside0.mk hi343_3
          have HC343_3 := Aside0.mk hl343_3
          clear hi343_3 hl343_3
          replace p343 := eq_true p343
          replace q343 := eq_true q343
          have p41 : 0 ≤ ((ji30) : Int) := of_decide_eq_true (by first | (with_reducible assumption) | assumption)
          have q41 : ((ji30) : Int) < ((((rd_T32 t325 a1).f3).length : Int) : Int) := of_decide_eq_true (by first | (with_reducible assumption) | assumption)
          obtain ⟨go41, co41, eo41, gb41, gl41, cl41, HG41⟩ := Kd.R_form HL343_3.out (by omega)
          (first | cases eo41 | (injection eo41 with ea_ en_ ec_; (first | subst ea_ | (injection ea_ with ea_; subst ea_)); subst ec_; clear en_))
          have GB41 := Aside0.mk gb41
          have GG41 := Aside0.mk HG41
          clear gb41 gl41 HG41
          obtain ⟨ce41, hcl41, hM41, hcc41, hfr41⟩ := Kd.R_elem HL343_3.out z37 ((ji30) : Int) p41 q41
          obtain rfl := k37_openM hM41
          have hx41_0 : World.cell? _ ⟨go41, ((ji30) : Int).toNat * 3, none⟩ = some (.int .i64 ((rd_T37 ((rd_T32 t325 a1).f3) (ji30)).f0)) := hcc41 0 _ rfl
          have hx41_1 : World.cell? _ ⟨go41, ((ji30) : Int).toNat * 3 + 1, none⟩ = some (.int .i64 ((rd_T37 ((rd_T32 t325 a1).f3) (ji30)).f1)) := hcc41 1 _ rfl
          have hx41_2 : World.cell? _ ⟨go41, ((ji30) : Int).toNat * 3 + 2, none⟩ = some (.int .i64 ((rd_T37 ((rd_T32 t325 a1).f3) (ji30)).f2)) := hcc41 2 _ rfl
          have hf41_0 : World.frozen? _ ⟨go41, ((ji30) : Int).toNat * 3, none⟩ = false := hfr41 0
          have hf41_1 : World.frozen? _ ⟨go41, ((ji30) : Int).toNat * 3 + 1, none⟩ = false := hfr41 1
          have hf41_2 : World.frozen? _ ⟨go41, ((ji30) : Int).toNat * 3 + 2, none⟩ = false := hfr41 2
          clear hcl41 hcc41 hfr41 hM41
          replace p41 := eq_true p41
          replace q41 := eq_true q41
          have hq78 : (a1 : Int) < (t325.length : Int) := (by have h_ : (a1 : Int) < ((t325.length : Int) : Int) := of_decide_eq_true (by first | (with_reducible assumption) | assumption); first | exact h_ | (have e_ := (Kd.S_reads' HO_324000.out).1; omega) | simpa only [List.length_set, List.length_set] using h_)
          obtain ⟨oki78, ce78, hcl78, hM78, hcc78, hok78, hbk78⟩ := Kd.S_borrow HO_324000.out z32 (a1 : Int) (of_decide_eq_true (by first | (with_reducible assumption) | assumption)) hq78
          obtain ⟨ve78_3, rfl, ge78_3⟩ := k32_openM hM78
          have hv78 := hcc78 3 _ rfl
          rw [add_field _ _ 3 (by omega)] at hv78
          replace hv78 := Option.some.inj (hv78.symm.trans HX343_3.out)
          subst hv78
          clear hcc78 hcl78
          replace ge78_3 := (show Kd.R k37 37 _ _ _ _ ((rd_T32 t325 a1).f3) from ge78_3)
          obtain ⟨cf78, hcl78, hN78, hcc78, hfr78⟩ := Kd.R_elem ge78_3 z37 ((ji30) : Int) (of_decide_eq_true (by first | (with_reducible assumption) | assumption)) (by have h_ : ((ji30) : Int) < ((((rd_T32 t325 a1).f3).length : Int) : Int) := of_decide_eq_true (by first | (with_reducible assumption) | assumption); first | exact h_ | (have e_ := (Kd.R_reads' HR343_3.out).1; omega) | simpa using h_)
          obtain rfl := k37_openM hN78
          have HP78 := Kd.R_seg ge78_3 ((ji30) : Int) (of_decide_eq_true (by first | (with_reducible assumption) | assumption)) (by have h_ : ((ji30) : Int) < ((((rd_T32 t325 a1).f3).length : Int) : Int) := of_decide_eq_true (by first | (with_reducible assumption) | assumption); first | exact h_ | (have e_ := (Kd.R_reads' HR343_3.out).1; omega) | simpa using h_) (seg := [.int .i64 a3_0, .int .i64 a3_1, .int .i64 a3_2]) (j := 0) hcl78 hcc78 (show 3 ≤ 3 from by decide) (x' := (⟨a3_0, a3_1, a3_2⟩ : S37)) (k37_mkM _ _ _ (⟨a3_0, a3_1, a3_2⟩ : S37)) (fun _ hk => hk)
          clear hcl78 hcc78 hfr78 hN78
          rw [← Ny344.out] at HP78
          have HS78 := hbk78 HP78.2 (fun k_ e_ => by injection e_ with e_; subst e_; exact ge78_3.1 _ rfl) (x' := (⟨(rd_T32 t325 a1).f0, (rd_T32 t325 a1).f1, (rd_T32 t325 a1).f2, y344⟩ : S32)) (k32_mkM _ _ _ (⟨(rd_T32 t325 a1).f0, (rd_T32 t325 a1).f1, (rd_T32 t325 a1).f2, y344⟩ : S32) HP78.1)
          rw [← Ny346.out] at HS78
          have HQ78 := Aside0.mk HS78
          clear HP78 HS78 hbk78 hok78
          refine start_ (n := 10) (S := fun w' => w'.cell? ⟨gb323, 0, none⟩ = some (.slice (some ad343) t325.length co14) ∧ w'.cell? ⟨gb323, 1, none⟩ = some (.slice Ao16 t328.length co16) ∧ w'.cell? ⟨gb323, 2, none⟩ = some (.slice Ao17 t331.length co17) ∧ w'.cell? ⟨gb323, 3, none⟩ = some (.int .i64 t334) ∧ w'.cell? ⟨gb324, 0, none⟩ = some (.int .i64 a3_0) ∧ w'.cell? ⟨gb324, 1, none⟩ = some (.int .i64 a3_1) ∧ w'.cell? ⟨gb324, 2, none⟩ = some (.int .i64 a3_2) ∧ w'.cell? (ad343.add ((a1).toNat * 4)) = some (.int .i64 ((rd_T32 t325 a1).f0)) ∧ w'.cell? ⟨(ad343.add ((a1).toNat * 4)).block, (ad343.add ((a1).toNat * 4)).off + 1, none⟩ = some (.int .i64 ((rd_T32 t325 a1).f1)) ∧ w'.cell? ⟨(ad343.add ((a1).toNat * 4)).block, (ad343.add ((a1).toNat * 4)).off + 2, none⟩ = some (.int .i64 ((rd_T32 t325 a1).f2)) ∧ w'.cell? ⟨(ad343.add ((a1).toNat * 4)).block, (ad343.add ((a1).toNat * 4)).off + 3, none⟩ = some (.slice (some ⟨go41, 0, none⟩) ((rd_T32 t325 a1).f3).length c343_3)) (ds := [9]) #[false, false, false, false, false, false, false, false, false, false] (by kernel_rfl) rfl rfl ⟨(blk_cell BK323.out 0).trans rfl, (blk_cell BK323.out 1).trans rfl, (blk_cell BK323.out 2).trans rfl, (blk_cell BK323.out 3).trans rfl, (blk_cell BK324.out 0).trans rfl, (blk_cell BK324.out 1).trans rfl, (blk_cell BK324.out 2).trans rfl, hx343_0, hx343_1, hx343_2, hx343_3⟩ (fun hHeld => ?_); refine with_tabW selvagelaw14_VerifyBehind.tab12 selvagelaw14_VerifyBehind.bits12 (fun HT_ HW_ => ?_)
          generalize w76.drew = w77 at HO_10 HO_324000 HO_324001 HO_324002 BK323 BK324 HB GG41 HL343_3 HQ78 HR343_3 HX343_3 hf41_0 hf41_1 hf41_2 hx343_0 hx343_1 hx343_2 hx343_3 hx41_0 hx41_1 hx41_2 hHeld ⊢
          refine pure_ (i := 0) (N := some 46) (v := ?_) (a' := ?_) #[true, false, false, false, false, false, false, false, false, false] rfl rfl (any_of HT_.out (by kernel_rfl)) (fun _ _ _ h => h) (Or.inl ⟨by rfl, ?_⟩) ?_ ?_
          rotate_left
          ·intro w'
           go_simp
           with_reducible rfl
          rotate_left
          ·simp only [Act.put, List.setIfInBounds_toArray, List.set_cons_zero, List.set_cons_succ, i64_w, i32_w]
           rfl
          refine pure_ (i := 2) (N := some 48) (v := ?_) (a' := ?_) #[true, false, true, false, false, false, false, false, false, false] rfl rfl (any_of HT_.out (by kernel_rfl)) (fun _ _ _ h => h) (Or.inl ⟨by rfl, ?_⟩) ?_ ?_
          rotate_left
          ·intro w'
           go_simp
           with_reducible rfl
          rotate_left
          ·simp only [Act.put, List.setIfInBounds_toArray, List.set_cons_zero, List.set_cons_succ, i64_w, i32_w]
           rfl
          refine pure_ (i := 6) (N := some 52) (v := ?_) (a' := ?_) #[true, false, true, false, false, false, true, false, false, false] rfl rfl (any_of HT_.out (by kernel_rfl)) (fun _ _ _ h => h) (Or.inl ⟨by rfl, ?_⟩) ?_ ?_
          rotate_left
          ·intro w'
           go_simp
           with_reducible rfl
          rotate_left
          ·simp only [Act.put, List.setIfInBounds_toArray, List.set_cons_zero, List.set_cons_succ, i64_w, i32_w]
           rfl
          refine take_ (i := 1) (N := some 47) (v := ?_) (a' := ?_) #[true, true, true, false, false, false, true, false, false, false] rfl rfl (take_ofW HT_.out HW_.out (by kernel_rfl)) (fun _ _ _ h => h) (Or.inl ⟨by rfl, ?_⟩) hHeld ?_ ?_
          rotate_left
          ·rintro w' ⟨s0, s1, s2, s3, s4, s5, s6, s7, s8, s9, s10⟩
           go_simp
           with_reducible rfl
          rotate_left
          ·simp only [Act.put, List.setIfInBounds_toArray, List.set_cons_zero, List.set_cons_succ, i64_w, i32_w]
           rfl
          refine pure_ (i := 3) (N := some 49) (v := ?_) (a' := ?_) #[true, true, true, true, false, false, true, false, false, false] rfl rfl (any_of HT_.out (by kernel_rfl)) (fun _ _ _ h => h) (Or.inl ⟨by rfl, ?_⟩) ?_ ?_
          rotate_left
          ·intro w'
           go_simp
           with_reducible rfl
          rotate_left
          ·simp only [Act.put, List.setIfInBounds_toArray, List.set_cons_zero, List.set_cons_succ, i64_w, i32_w]
           rfl
          refine pure_ (i := 4) (N := some 50) (v := ?_) (a' := ?_) #[true, true, true, true, true, false, true, false, false, false] rfl rfl (any_of HT_.out (by kernel_rfl)) (fun _ _ _ h => h) (Or.inl ⟨by rfl, ?_⟩) ?_ ?_
          rotate_left
          ·intro w'
           go_simp
           with_reducible rfl
          rotate_left
          ·simp only [Act.put, List.setIfInBounds_toArray, List.set_cons_zero, List.set_cons_succ, i64_w, i32_w]
           rfl
          refine take_ (i := 5) (N := some 51) (v := ?_) (a' := ?_) #[true, true, true, true, true, true, true, false, false, false] rfl rfl (take_ofW HT_.out HW_.out (by kernel_rfl)) (fun _ _ _ h => h) (Or.inl ⟨by rfl, ?_⟩) hHeld ?_ ?_
          rotate_left
          ·rintro w' ⟨s0, s1, s2, s3, s4, s5, s6, s7, s8, s9, s10⟩
           go_simp
           with_reducible rfl
          rotate_left
          ·simp only [Act.put, List.setIfInBounds_toArray, List.set_cons_zero, List.set_cons_succ, i64_w, i32_w]
           rfl
          refine take_ (i := 7) (N := some 53) (v := ?_) (a' := ?_) #[true, true, true, true, true, true, true, true, false, false] rfl rfl (take_ofW HT_.out HW_.out (by kernel_rfl)) (fun _ _ _ h => h) (Or.inl ⟨by rfl, ?_⟩) hHeld ?_ ?_
          rotate_left
          ·rintro w' ⟨s0, s1, s2, s3, s4, s5, s6, s7, s8, s9, s10⟩
           go_simp
           with_reducible rfl
          rotate_left
          ·simp only [Act.put, List.setIfInBounds_toArray, List.set_cons_zero, List.set_cons_succ, i64_w, i32_w]
           rfl
          refine pure_ (i := 8) (N := some 54) (v := ?_) (a' := ?_) #[true, true, true, true, true, true, true, true, true, false] rfl rfl (any_of HT_.out (by kernel_rfl)) (fun _ _ _ h => h) (Or.inl ⟨by rfl, ?_⟩) ?_ ?_
          rotate_left
          ·intro w'
           go_simp
           with_reducible rfl
          rotate_left
          ·simp only [Act.put, List.setIfInBounds_toArray, List.set_cons_zero, List.set_cons_succ, i64_w, i32_w]
           rfl
          refine last_ (i := 9) (N := none) #[true, true, true, true, true, true, true, true, true, true] rfl rfl (one_of HT_.out (by kernel_rfl)) (by decide) (fun K hK => ?_)
          refine skip_ (w1 := ?_) (by rfl) rfl ?_ ?_
          rotate_left
          ·go_simp
           rfl
          refine hK.out _ _ ?_
          clear hK K
          refine done_ (done_of HT_.out (by kernel_rfl)) ?_
          have hcz80_0 : w77.cell? ⟨gb323, 0, none⟩ = some (.slice (some ad343) t325.length co14) := (blk_cell BK323.out 0).trans rfl
          have hneF : go41 ≠ gb323 := blk_ne GG41.out BK323.out (by decide)
          have hfaF : ∀ (W : World) (i j : Nat) (x : Value), (W.setCell ⟨go41, i, none⟩ x).cell? ⟨gb323, j, none⟩ = W.cell? ⟨gb323, j, none⟩ := fun W i j x => World.cell?_setCell_far W ⟨go41, i, none⟩ ⟨gb323, j, none⟩ x hneF
          have hcz80_1 : w77.cell? ⟨gb323, 1, none⟩ = some (.slice Ao16 t328.length co16) := (blk_cell BK323.out 1).trans rfl
          have hcz80_2 : w77.cell? ⟨gb323, 2, none⟩ = some (.slice Ao17 t331.length co17) := (blk_cell BK323.out 2).trans rfl
          have hcz80_3 : w77.cell? ⟨gb323, 3, none⟩ = some (.int .i64 t334) := (blk_cell BK323.out 3).trans rfl
          have hfz80_0 := blk_frozen BK323.out 0
          have hfz80_1 := blk_frozen BK323.out 1
          have hfz80_2 := blk_frozen BK323.out 2
          have hfz80_3 := blk_frozen BK323.out 3
          try go_wp2_with (first | ((with_reducible refine gate_callee (f := 9) rfl ?_); refine goesL_ (some 57) rfl rfl Try.func9 (by kernel_rfl) rfl #[.agg #[.slice (some ad343) y346.length co14, .slice Ao16 t328.length co16, .slice Ao17 t331.length co17, .int .i64 t334], .int .i64 a1] rfl (by (try simp only [List.map_toArray, List.map_cons, List.map_nil]); first | done | (rw [show y346.length = t325.length from (Kd.S_reads' HQ78.out).1.symm] <;> rfl) | rfl | (simp only [List.length_drop, List.length_take]; rfl)) ?_; (with_reducible refine (verify_Depths.calls _ _ y346 _ _ t328 _ _ t331 t334 a1 t347 _ ?side1 ?side2 ?side3 ?side4 ?side5 ?side6 A42.out).mono ?_); (case side1 => refine (Kd.S_reads' (e := 32) (base := w.heap.size) (ok := fun k_ => k_ ≠ gb324) (n := t325.length) (c := co14) ?_).2.2; exact (by (with_reducible repeat (first | apply Kd.S_alloc | apply Kd.S_drewN | apply Kd.S_drew)); exact HQ78.out)); (case side2 => rw [show y346.length = t325.length from (Kd.S_reads' HQ78.out).1.symm]; exact (Kd.S_reads' HO_324000.out).2.1); (case side3 => refine (Kd.R_reads' (e := 3) (base := w.heap.size) (ok := fun k_ => some k_ ≠ (.slice (some ad340) t336.length co73 : Value).ownBlock) (n := t328.length) (c := co16) ?_).2.2; exact (by (with_reducible repeat (first | apply Kd.R_alloc | apply Kd.R_drewN | apply Kd.R_drew)); exact (Kd.R_mono (Kd.R_far (p := ⟨go41, ((ji30) : Int).toNat * 3 + 2, none⟩) (Kd.R_far (p := ⟨go41, ((ji30) : Int).toNat * 3 + 1, none⟩) (Kd.R_far (p := ⟨go41, ((ji30) : Int).toNat * 3, none⟩) (Kd.R_types HO_324001.out GG41.out (by decide)) (fun _ hk => hk.2) (.int .i64 a3_0)) (fun _ hk => hk.2) (.int .i64 a3_1)) (fun _ hk => hk.2) (.int .i64 a3_2)) (fun _ h_ => h_.1)))); (case side4 => exact (Kd.R_reads' HO_324001.out).2.1); (case side5 => refine (Kd.R_reads' (e := 9) (base := w.heap.size) (ok := fun k_ => True) (n := t331.length) (c := co17) ?_).2.2; exact (by (with_reducible repeat (first | apply Kd.R_alloc | apply Kd.R_drewN | apply Kd.R_drew)); exact (Kd.R_mono (Kd.R_far (p := ⟨go41, ((ji30) : Int).toNat * 3 + 2, none⟩) (Kd.R_far (p := ⟨go41, ((ji30) : Int).toNat * 3 + 1, none⟩) (Kd.R_far (p := ⟨go41, ((ji30) : Int).toNat * 3, none⟩) (Kd.R_types HO_324002.out GG41.out (by decide)) (fun _ hk => hk.2) (.int .i64 a3_0)) (fun _ hk => hk.2) (.int .i64 a3_1)) (fun _ hk => hk.2) (.int .i64 a3_2)) (fun _ h_ => h_.1)))); (case side6 => exact (Kd.R_reads' HO_324002.out).2.1); rintro e w81 ⟨v348, rfl, ho0, hb⟩; refine ⟨_, rfl, ?_⟩; have n0_ := Aside0.mk (Kd.R_elder' (by (with_reducible repeat (first | apply Kd.R_alloc | apply Kd.R_drewN | apply Kd.R_drew)); exact (Kd.R_mono (Kd.R_far (p := ⟨go41, ((ji30) : Int).toNat * 3 + 2, none⟩) (Kd.R_far (p := ⟨go41, ((ji30) : Int).toNat * 3 + 1, none⟩) (Kd.R_far (p := ⟨go41, ((ji30) : Int).toNat * 3, none⟩) (Kd.R_types HO_10.out GG41.out (by decide)) (fun _ hk => hk.2) (.int .i64 a3_0)) (fun _ hk => hk.2) (.int .i64 a3_1)) (fun _ hk => hk.2) (.int .i64 a3_2)) (fun _ h_ => h_.1))) (Kd.R_base ho0) hb); have n1_ := Aside0.mk (Kd.S_below (by (with_reducible repeat (first | apply Kd.S_alloc | apply Kd.S_drewN | apply Kd.S_drew)); exact HQ78.out) hb); have n2_ := Aside0.mk (Kd.R_elder' (by (with_reducible repeat (first | apply Kd.R_alloc | apply Kd.R_drewN | apply Kd.R_drew)); exact (Kd.R_mono (Kd.R_far (p := ⟨go41, ((ji30) : Int).toNat * 3 + 2, none⟩) (Kd.R_far (p := ⟨go41, ((ji30) : Int).toNat * 3 + 1, none⟩) (Kd.R_far (p := ⟨go41, ((ji30) : Int).toNat * 3, none⟩) (Kd.R_types HO_324001.out GG41.out (by decide)) (fun _ hk => hk.2) (.int .i64 a3_0)) (fun _ hk => hk.2) (.int .i64 a3_1)) (fun _ hk => hk.2) (.int .i64 a3_2)) (fun _ h_ => h_.1))) (Kd.R_base ho0) hb); have n3_ := Aside0.mk (Kd.R_below (by (with_reducible repeat (first | apply Kd.R_alloc | apply Kd.R_drewN | apply Kd.R_drew)); exact (Kd.R_mono (Kd.R_far (p := ⟨go41, ((ji30) : Int).toNat * 3 + 2, none⟩) (Kd.R_far (p := ⟨go41, ((ji30) : Int).toNat * 3 + 1, none⟩) (Kd.R_far (p := ⟨go41, ((ji30) : Int).toNat * 3, none⟩) (Kd.R_types HO_324002.out GG41.out (by decide)) (fun _ hk => hk.2) (.int .i64 a3_0)) (fun _ hk => hk.2) (.int .i64 a3_1)) (fun _ hk => hk.2) (.int .i64 a3_2)) (fun _ h_ => h_.1))) hb); have n4_ := Aside0.mk (Kd.R_lower (Kd.R_new' (Kd.R_new' ho0 (Kd.R_lt (by (with_reducible repeat (first | apply Kd.R_alloc | apply Kd.R_drewN | apply Kd.R_drew)); exact (Kd.R_mono (Kd.R_far (p := ⟨go41, ((ji30) : Int).toNat * 3 + 2, none⟩) (Kd.R_far (p := ⟨go41, ((ji30) : Int).toNat * 3 + 1, none⟩) (Kd.R_far (p := ⟨go41, ((ji30) : Int).toNat * 3, none⟩) (Kd.R_types HO_10.out GG41.out (by decide)) (fun _ hk => hk.2) (.int .i64 a3_0)) (fun _ hk => hk.2) (.int .i64 a3_1)) (fun _ hk => hk.2) (.int .i64 a3_2)) (fun _ h_ => h_.1))))) (Kd.R_lt (by (with_reducible repeat (first | apply Kd.R_alloc | apply Kd.R_drewN | apply Kd.R_drew)); exact (Kd.R_mono (Kd.R_far (p := ⟨go41, ((ji30) : Int).toNat * 3 + 2, none⟩) (Kd.R_far (p := ⟨go41, ((ji30) : Int).toNat * 3 + 1, none⟩) (Kd.R_far (p := ⟨go41, ((ji30) : Int).toNat * 3, none⟩) (Kd.R_types HO_324001.out GG41.out (by decide)) (fun _ hk => hk.2) (.int .i64 a3_0)) (fun _ hk => hk.2) (.int .i64 a3_1)) (fun _ hk => hk.2) (.int .i64 a3_2)) (fun _ h_ => h_.1))))) (below_size (by repeat (first | (with_reducible first | exact HB.out | apply below_alloc | apply pw_below_drewN | apply below_drew1 | refine below_set ?_ GB41.out | refine below_set ?_ GB41.out | refine below_set ?_ GB41.out | refine below_set ?_ GE323.out | refine below_set ?_ GE324.out) | exact HB.out)))); have n5_ := Aside0.mk (blk_below (g := gb323) (o := .cells #[.slice (some ad343) t325.length co14, .slice Ao16 t328.length co16, .slice Ao17 t331.length co17, .int .i64 t334] 26 (0, 0)) (by (with_reducible repeat (first | refine blk_drewN ?_ _ | refine blk_drew ?_ | refine blk_alloc ?_ _)); refine blk_far ?_ (by have h_ := Kd.R_ne HL343_3.out BK323.out (by decide); intro e_; exact h_ (by rw [e_]; rfl)) _; (with_reducible repeat (first | refine blk_drewN ?_ _ | refine blk_drew ?_ | refine blk_alloc ?_ _)); refine blk_far ?_ (by have h_ := Kd.R_ne HL343_3.out BK323.out (by decide); intro e_; exact h_ (by rw [e_]; rfl)) _; (with_reducible repeat (first | refine blk_drewN ?_ _ | refine blk_drew ?_ | refine blk_alloc ?_ _)); refine blk_far ?_ (by have h_ := Kd.R_ne HL343_3.out BK323.out (by decide); intro e_; exact h_ (by rw [e_]; rfl)) _; (with_reducible repeat (first | refine blk_drewN ?_ _ | refine blk_drew ?_ | refine blk_alloc ?_ _)); exact BK323.out) hb); have n6_ := Aside0.mk (blk_below (g := gb324) (o := .cells #[.int .i64 a3_0, .int .i64 a3_1, .int .i64 a3_2] 37 (0, 0)) (by (with_reducible repeat (first | refine blk_drewN ?_ _ | refine blk_drew ?_ | refine blk_alloc ?_ _)); refine blk_far ?_ (by have h_ := Kd.R_away HL343_3.out (fun _ hk => hk.1); intro e_; exact h_ (by rw [e_]; rfl)) _; (with_reducible repeat (first | refine blk_drewN ?_ _ | refine blk_drew ?_ | refine blk_alloc ?_ _)); refine blk_far ?_ (by have h_ := Kd.R_away HL343_3.out (fun _ hk => hk.1); intro e_; exact h_ (by rw [e_]; rfl)) _; (with_reducible repeat (first | refine blk_drewN ?_ _ | refine blk_drew ?_ | refine blk_alloc ?_ _)); refine blk_far ?_ (by have h_ := Kd.R_away HL343_3.out (fun _ hk => hk.1); intro e_; exact h_ (by rw [e_]; rfl)) _; (with_reducible repeat (first | refine blk_drewN ?_ _ | refine blk_drew ?_ | refine blk_alloc ?_ _)); exact BK324.out) hb); have n7_ := Aside0.mk (below_step (by repeat (first | (with_reducible first | exact HB.out | apply below_alloc | apply pw_below_drewN | apply below_drew1 | refine below_set ?_ GB41.out | refine below_set ?_ GB41.out | refine below_set ?_ GB41.out | refine below_set ?_ GE323.out | refine below_set ?_ GE324.out) | exact HB.out)) hb); clear HO_10; clear HO_324000; clear HO_324001; clear HO_324002; clear BK323; clear BK324; clear HB; have HO_10 := n0_; have HO_324000 := n1_; have HO_324001 := n2_; have HO_324002 := n3_; have HO349 := n4_; have BK323 := n5_; have BK324 := n6_; have HB := n7_; clear n0_ n1_ n2_ n3_ n4_ n5_ n6_ n7_; (try clear hb); (try clear hb2); (try clear hk); (try clear hi); (try clear ho0); obtain ⟨Ao82, co82, eo82⟩ := Kd.R_slice HO349.out; subst eo82) | ((with_reducible refine gate_callee (f := 14) rfl ?_); refine goesL_ (some 59) rfl rfl Try.func14 (by kernel_rfl) rfl #[.slice Ao82 t347.length co82, .slice (some ad340) t336.length co73] rfl (by (try simp only [List.map_toArray, List.map_cons, List.map_nil]); first | done | rfl | (simp only [List.length_drop, List.length_take]; rfl)) ?_; (with_reducible refine (selvageref02_SameInts.calls kj26 _ _ t347 _ _ t336 false _ ?side1 ?side2 ?side3 ?side4 A43.out).mono ?_); (case side1 => repeat (first | exact (Kd.R_reads' HO349.out).2.2 | (with_reducible refine Kd.C_alloc ?_ _) | (with_reducible refine Kd.C_drewN ?_ _) | (with_reducible refine Kd.C_drew ?_))); (case side2 => exact (Kd.R_reads' HO349.out).2.1); (case side3 => repeat (first | exact (Kd.R_reads' HO_10.out).2.2 | (with_reducible refine Kd.C_alloc ?_ _) | (with_reducible refine Kd.C_drewN ?_ _) | (with_reducible refine Kd.C_drew ?_))); (case side4 => exact (Kd.R_reads' HO_10.out).2.1); rintro e w' ⟨rfl, ⟨nd, rfl⟩⟩; refine ⟨_, rfl, ?_⟩))
          go_ret
          exact ⟨by first | rfl | (simp [errW_none, errW_some] <;> rfl) | (simp only [← hji30]; first | rfl | (simp [errW_none, errW_some] <;> rfl)) | (simp [*, errW_none, errW_some] <;> rfl), by repeat (first | (with_reducible first | exact HB.out | apply below_alloc | apply pw_below_drewN | apply below_drew1 | refine below_set ?_ GE323.out | refine below_set ?_ GE324.out) | exact HB.out)⟩
         rw [if_neg c40] at H
         exact absurd H (by simp)
        rw [if_neg c39] at H
        exact absurd H (by simp)
       rw [if_neg c38] at H
       exact absurd H (by simp)
      rw [if_neg c32] at H
      exact absurd H (by simp)
     rw [if_neg c31] at H
     exact absurd H (by simp)

end Go.Proofs.Ytnhipgmphhndhaa.Q
