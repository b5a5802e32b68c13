-- PRINTED by print.py (a twelfth state) out of the translation. Not trusted: Lean checks it.
import Derived.Test.YtadbiogchgglpaaQx0
import Derived.Test.YtadbiogchgglpaaQx2
import Derived.Test.YtadbiogchgglpaaQx9
import Derived.Test.YtadbiogchgglpaaQx11
import Derived.Test.YtadbiogchgglpaaQx17
namespace Go.Proofs.Ytadbiogchgglpaa.Q
open Go.RowKit Go.Proofs.YtadbiogchgglpaaW.PrintWords Go.Proofs.YtadbiogchgglpaaW.PrintLast Go.Proofs.YtadbiogchgglpaaW.PrintMore
attribute [local go_sem] max2_int min2_int max_two min_two max_three min_three max_four min_four   -- for this text's walks alone
set_option linter.unusedVariables false
set_option linter.unusedSimpArgs false

/-! ### selvagelaw13_CodeLong: function 6 -/
mutual
def selvagelaw13_CodeLong.l0 : Nat → List Int → Int → Int → List (S40) → List Int → List ByteArray → Int → Option (Bool)
 | 0, _, _, _, _, _, _, _ => none
 | k + 1, x3, x5, x6, x373000, x373001, x373002, x373003 => if x6 < (x373002.length : Int) then (if 0 ≤ x6 then (selvagelaw13_CodeLong.l0 k x3 (wrap64 ((wrap64 (x5 + 1)) + ((rdOf ByteArray.empty x373002 x6).size : Int))) (wrap64 (x6 + 1)) x373000 x373001 x373002 x373003) else (none)) else (selvagelaw13_CodeLong.l1 k x3 x5 0 x373000 x373001 x373002 x373003)
def selvagelaw13_CodeLong.l1 : Nat → List Int → Int → Int → List (S40) → List Int → List ByteArray → Int → Option (Bool)
 | 0, _, _, _, _, _, _, _ => none
 | k + 1, x3, x5, x7, x373000, x373001, x373002, x373003 => if x7 < (x373000.length : Int) then (if 0 ≤ x7 then (selvagelaw13_CodeLong.l1 k x3 (wrap64 ((wrap64 (x5 + 5)) + (wrap64 (5 * (((rd_T40 x373000 x7).f3).length : Int))))) (wrap64 (x7 + 1)) x373000 x373001 x373002 x373003) else (none)) else (if (x3.length : Int) = x5 then ((selvagelaw13_lives.f k).bind fun t391 => (some t391)) else (some false))
end
def selvagelaw13_CodeLong.f (k : Nat) (l0_0 : List (S40)) (l0_1 : List Int) (l0_2 : List ByteArray) (a0_3 : Int) : Option (Bool) := (selvageref13_Cut.f k l0_0 l0_1 l0_2 a0_3).bind fun bt373 => ((code_Encode.f k bt373.1 bt373.2.1 bt373.2.2.1 bt373.2.2.2).bind fun bt383 => (if bt383.2 = 0 then (selvagelaw13_CodeLong.l0 k bt383.1 (wrap64 (7 + (wrap64 (8 * (bt373.2.1.length : Int))))) 0 bt373.1 bt373.2.1 bt373.2.2.1 bt373.2.2.2) else (if (bt383.1.length : Int) = 0 then ((code_May.f k bt373.1 bt373.2.1 bt373.2.2.1 bt373.2.2.2).bind fun t387 => (if t387 = true then (some false) else ((selvagelaw13_lives.f k).bind fun t388 => (some t388)))) else (some false))))
theorem selvagelaw13_CodeLong.mono_l : ∀ k, (∀ y0 y1 y2 y3 y4 y5 y6, LeO (selvagelaw13_CodeLong.l0 k y0 y1 y2 y3 y4 y5 y6) (selvagelaw13_CodeLong.l0 (k + 1) y0 y1 y2 y3 y4 y5 y6)) ∧ (∀ y0 y1 y2 y3 y4 y5 y6, LeO (selvagelaw13_CodeLong.l1 k y0 y1 y2 y3 y4 y5 y6) (selvagelaw13_CodeLong.l1 (k + 1) y0 y1 y2 y3 y4 y5 y6))
 | 0 => ⟨fun _ _ _ _ _ _ _ r h => by simp [selvagelaw13_CodeLong.l0] at h, fun _ _ _ _ _ _ _ r h => by simp [selvagelaw13_CodeLong.l1] at h⟩
 | k + 1 => by
  obtain ⟨ih0, ih1⟩ := selvagelaw13_CodeLong.mono_l k
  refine ⟨?_, ?_⟩
  ·intro y0 y1 y2 y3 y4 y5 y6
   unfold selvagelaw13_CodeLong.l0
   repeat' first
   | (with_reducible exact ih0 _ _ _ _ _ _ _)
   | (with_reducible exact ih1 _ _ _ _ _ _ _)
   | (with_reducible exact code_Encode.mono _ _ _ _ _)
   | (with_reducible exact code_May.mono _ _ _ _ _)
   | (with_reducible exact selvagelaw13_lives.mono _)
   | (with_reducible exact selvageref13_Cut.mono _ _ _ _ _)
   | (with_reducible exact LeO.refl _)
   | (with_reducible exact LeO.none _)
   | (with_reducible refine LeO.ite ?_ ?_)
   | (with_reducible refine LeO.bind ?_ (fun _ => ?_))
   | exact ih0 _ _ _ _ _ _ _
   | exact ih1 _ _ _ _ _ _ _
   | exact code_Encode.mono _ _ _ _ _
   | exact code_May.mono _ _ _ _ _
   | exact selvagelaw13_lives.mono _
   | exact selvageref13_Cut.mono _ _ _ _ _
   | exact LeO.none _
   | refine LeO.ite ?_ ?_
   | refine LeO.bind ?_ (fun _ => ?_)
  ·intro y0 y1 y2 y3 y4 y5 y6
   unfold selvagelaw13_CodeLong.l1
   repeat' first
   | (with_reducible exact ih0 _ _ _ _ _ _ _)
   | (with_reducible exact ih1 _ _ _ _ _ _ _)
   | (with_reducible exact code_Encode.mono _ _ _ _ _)
   | (with_reducible exact code_May.mono _ _ _ _ _)
   | (with_reducible exact selvagelaw13_lives.mono _)
   | (with_reducible exact selvageref13_Cut.mono _ _ _ _ _)
   | (with_reducible exact LeO.refl _)
   | (with_reducible exact LeO.none _)
   | (with_reducible refine LeO.ite ?_ ?_)
   | (with_reducible refine LeO.bind ?_ (fun _ => ?_))
   | exact ih0 _ _ _ _ _ _ _
   | exact ih1 _ _ _ _ _ _ _
   | exact code_Encode.mono _ _ _ _ _
   | exact code_May.mono _ _ _ _ _
   | exact selvagelaw13_lives.mono _
   | exact selvageref13_Cut.mono _ _ _ _ _
   | exact LeO.none _
   | refine LeO.ite ?_ ?_
   | refine LeO.bind ?_ (fun _ => ?_)
theorem selvagelaw13_CodeLong.mono : ∀ a0 a1 a2 a3 k, LeO (selvagelaw13_CodeLong.f k a0 a1 a2 a3) (selvagelaw13_CodeLong.f (k + 1) a0 a1 a2 a3) := by
 intro a0 a1 a2 a3 k
 obtain ⟨ih0, ih1⟩ := selvagelaw13_CodeLong.mono_l k
 unfold selvagelaw13_CodeLong.f
 repeat' first
   | (with_reducible exact ih0 _ _ _ _ _ _ _)
   | (with_reducible exact ih1 _ _ _ _ _ _ _)
   | (with_reducible exact code_Encode.mono _ _ _ _ _)
   | (with_reducible exact code_May.mono _ _ _ _ _)
   | (with_reducible exact selvagelaw13_lives.mono _)
   | (with_reducible exact selvageref13_Cut.mono _ _ _ _ _)
   | (with_reducible exact LeO.refl _)
   | (with_reducible exact LeO.none _)
   | (with_reducible refine LeO.ite ?_ ?_)
   | (with_reducible refine LeO.bind ?_ (fun _ => ?_))
   | exact ih0 _ _ _ _ _ _ _
   | exact ih1 _ _ _ _ _ _ _
   | exact code_Encode.mono _ _ _ _ _
   | exact code_May.mono _ _ _ _ _
   | exact selvagelaw13_lives.mono _
   | exact selvageref13_Cut.mono _ _ _ _ _
   | exact LeO.none _
   | refine LeO.ite ?_ ?_
   | refine LeO.bind ?_ (fun _ => ?_)
set_option maxHeartbeats 8000000 in
set_option maxRecDepth 100000 in
theorem selvagelaw13_CodeLong.calls (k : Nat) (A0_0 : Option Addr) (c0_0 : Nat) (l0_0 : List (S40)) (A0_1 : Option Addr) (c0_1 : Nat) (l0_1 : List Int) (A0_2 : Option Addr) (c0_2 : Nat) (l0_2 : List ByteArray) (a0_3 : Int) (r : Bool) (w : World) (hr0_0 : Kd.C k40 w A0_0 l0_0.length l0_0) (hc0_0 : l0_0.length ≤ c0_0) (hr0_1 : Kd.C (Kd.int .i64) w A0_1 l0_1.length l0_1) (hc0_1 : l0_1.length ≤ c0_1) (hr0_2 : Kd.C Kd.string w A0_2 l0_2.length l0_2) (hc0_2 : l0_2.length ≤ c0_2) (h : selvagelaw13_CodeLong.f k l0_0 l0_1 l0_2 a0_3 = some r) :
  Calls Try.prog 6 #[.agg #[.slice A0_0 l0_0.length c0_0, .slice A0_1 l0_1.length c0_1, .slice A0_2 l0_2.length c0_2, .int .i64 a0_3]] w fun e w' => e = .returned (.bool r) ∧ Below w.heap.size w w' := by
 have hu26 := Try.underlying26
 have HR0_0 := Aside0.mk hr0_0
 have HC0_0 := Aside0.mk hc0_0
 clear hr0_0 hc0_0
 have HR0_1 := Aside0.mk hr0_1
 have HC0_1 := Aside0.mk hc0_1
 clear hr0_1 hc0_1
 have HR0_2 := Aside0.mk hr0_2
 have HC0_2 := Aside0.mk hc0_2
 clear hr0_2 hc0_2
 have HB := Aside0.mk (Below.refl w.heap.size w)
 have H : ((selvageref13_Cut.f k l0_0 l0_1 l0_2 a0_3).bind fun bt373 => ((code_Encode.f k bt373.1 bt373.2.1 bt373.2.2.1 bt373.2.2.2).bind fun bt383 => (if bt383.2 = 0 then (selvagelaw13_CodeLong.l0 k bt383.1 (wrap64 (7 + (wrap64 (8 * (bt373.2.1.length : Int))))) 0 bt373.1 bt373.2.1 bt373.2.2.1 bt373.2.2.2) else (if (bt383.1.length : Int) = 0 then ((code_May.f k bt373.1 bt373.2.1 bt373.2.2.1 bt373.2.2.2).bind fun t387 => (if t387 = true then (some false) else ((selvagelaw13_lives.f k).bind fun t388 => (some t388)))) else (some false))))) = some r := h
 clear h
 replace H := Option.bind_eq_some_iff.mp H
 obtain ⟨⟨t373, t376, t379, t382⟩, A20, H⟩ := H
 replace H : ((code_Encode.f k t373 t376 t379 t382).bind fun bt383 => (if bt383.2 = 0 then (selvagelaw13_CodeLong.l0 k bt383.1 (wrap64 (7 + (wrap64 (8 * (t376.length : Int))))) 0 t373 t376 t379 t382) else (if (bt383.1.length : Int) = 0 then ((code_May.f k t373 t376 t379 t382).bind fun t387 => (if t387 = true then (some false) else ((selvagelaw13_lives.f k).bind fun t388 => (some t388)))) else (some false)))) = some r := H
 have A2 := Aside0.mk A20
 clear A20
 replace H := Option.bind_eq_some_iff.mp H
 obtain ⟨⟨t383, t386⟩, A30, H⟩ := H
 replace H : (if t386 = 0 then (selvagelaw13_CodeLong.l0 k t383 (wrap64 (7 + (wrap64 (8 * (t376.length : Int))))) 0 t373 t376 t379 t382) else (if (t383.length : Int) = 0 then ((code_May.f k t373 t376 t379 t382).bind fun t387 => (if t387 = true then (some false) else ((selvagelaw13_lives.f k).bind fun t388 => (some t388)))) else (some false))) = some r := H
 have A3 := Aside0.mk A30
 clear A30
 by_cases c4 : t386 = 0
 ·rw [if_pos c4] at H
  have c4b0 : (t386 == 0) = true := beq_iff_eq.mpr c4
  have c4b1 : (t386 != 0) = false := bne_eq_false_iff_eq.mpr c4
  clear c4
  have H' := Aside0.mk H
  clear H
  go_enter Try.func6, Try.ntmps6
  go_wp2_with (first | ((with_reducible refine gate_dst (N := 1) rfl ?_); refine box_event ?hg (N := 1) ?hd (cs := #[.slice A0_0 l0_0.length c0_0, .slice A0_1 l0_1.length c0_1, .slice A0_2 l0_2.length c0_2, .int .i64 a0_3]) (t := 26) ?hr ?_; (case hd => rfl); (case hg => rfl); (case hr => first | (go_simp; done) | (go_simp; rfl)); intro gb372 hg w5 hbox hb; have n0_ := Aside0.mk (below_step (by repeat (first | (with_reducible first | exact HB.out | apply below_alloc | apply pw_below_drewN | apply below_drew1) | exact HB.out)) hb); have n1_ := Aside0.mk (hbox); have n2_ := Aside0.mk ((by rw [hg]; exact (below_size (by repeat (first | (with_reducible first | exact HB.out | apply below_alloc | apply pw_below_drewN | apply below_drew1) | exact HB.out))) : w.heap.size ≤ gb372)); have n3_ := Aside0.mk ((by rw [hg]; exact (below_size (by repeat (first | (with_reducible first | exact HB.out | apply below_alloc | apply pw_below_drewN | apply below_drew1) | exact HB.out))) : w.heap.size ≤ gb372)); clear HB; have HB := n0_; have BK372 := n1_; have GW372 := n2_; have GE372 := n3_; clear n0_ n1_ n2_ n3_; clear hb hbox hg; have hcz6_0 : w5.cell? ⟨gb372, 0, none⟩ = some (.slice A0_0 l0_0.length c0_0) := (blk_cell BK372.out 0).trans rfl; have hcz6_1 : w5.cell? ⟨gb372, 1, none⟩ = some (.slice A0_1 l0_1.length c0_1) := (blk_cell BK372.out 1).trans rfl; have hcz6_2 : w5.cell? ⟨gb372, 2, none⟩ = some (.slice A0_2 l0_2.length c0_2) := (blk_cell BK372.out 2).trans rfl; have hcz6_3 : w5.cell? ⟨gb372, 3, none⟩ = some (.int .i64 a0_3) := (blk_cell BK372.out 3).trans rfl; have hfz6_0 := blk_frozen BK372.out 0; have hfz6_1 := blk_frozen BK372.out 1; have hfz6_2 := blk_frozen BK372.out 2; have hfz6_3 := blk_frozen BK372.out 3) | ((with_reducible refine gate_callee (f := 9) rfl ?_); refine goesL_ (some 9) rfl rfl Try.func9 (by kernel_rfl) rfl #[.agg #[.slice A0_0 l0_0.length c0_0, .slice A0_1 l0_1.length c0_1, .slice A0_2 l0_2.length c0_2, .int .i64 a0_3]] rfl (by (try simp only [List.map_toArray, List.map_cons, List.map_nil]); first | done | rfl | (simp only [List.length_drop, List.length_take]; rfl)) ?_; (with_reducible refine (selvageref13_Cut.calls k _ _ l0_0 _ _ l0_1 _ _ l0_2 a0_3 t373 t376 t379 t382 _ ?side1 ?side2 ?side3 ?side4 ?side5 ?side6 A2.out).mono ?_); (case side1 => repeat (first | exact (Kd.C_below HR0_0.out HB.out) | (with_reducible refine Kd.C_alloc ?_ _) | (with_reducible refine Kd.C_drewN ?_ _) | (with_reducible refine Kd.C_drew ?_))); (case side2 => exact HC0_0.out); (case side3 => repeat (first | exact (Kd.C_below HR0_1.out HB.out) | (with_reducible refine Kd.C_alloc ?_ _) | (with_reducible refine Kd.C_drewN ?_ _) | (with_reducible refine Kd.C_drew ?_))); (case side4 => exact HC0_1.out); (case side5 => repeat (first | exact (Kd.C_below HR0_2.out HB.out) | (with_reducible refine Kd.C_alloc ?_ _) | (with_reducible refine Kd.C_drewN ?_ _) | (with_reducible refine Kd.C_drew ?_))); (case side6 => exact HC0_2.out); rintro e w7 ⟨v374, v377, v380, rfl, ho0, ho1, ho2, hb⟩; refine ⟨_, rfl, ?_⟩; have n0_ := Aside0.mk (Kd.S_lower ho0 (below_size (by repeat (first | (with_reducible first | exact HB.out | apply below_alloc | apply pw_below_drewN | apply below_drew1 | refine below_set ?_ GE372.out) | exact HB.out)))); have n1_ := Aside0.mk (Kd.R_lower ho1 (below_size (by repeat (first | (with_reducible first | exact HB.out | apply below_alloc | apply pw_below_drewN | apply below_drew1 | refine below_set ?_ GE372.out) | exact HB.out)))); have n2_ := Aside0.mk (Kd.R_lower ho2 (below_size (by repeat (first | (with_reducible first | exact HB.out | apply below_alloc | apply pw_below_drewN | apply below_drew1 | refine below_set ?_ GE372.out) | exact HB.out)))); have n3_ := Aside0.mk (blk_below (g := gb372) (o := .cells #[.slice A0_0 l0_0.length c0_0, .slice A0_1 l0_1.length c0_1, .slice A0_2 l0_2.length c0_2, .int .i64 a0_3] 26 (0, 0)) (by (with_reducible repeat (first | refine blk_drewN ?_ _ | refine blk_drew ?_ | refine blk_alloc ?_ _)); exact BK372.out) hb); have n4_ := Aside0.mk (below_step (by repeat (first | (with_reducible first | exact HB.out | apply below_alloc | apply pw_below_drewN | apply below_drew1 | refine below_set ?_ GE372.out) | exact HB.out)) hb); clear BK372; clear HB; have HO375 := n0_; have HO378 := n1_; have HO381 := n2_; have BK372 := n3_; have HB := n4_; clear n0_ n1_ n2_ n3_ n4_; (try clear hb); (try clear hb2); (try clear hk); (try clear hi); (try clear ho0); (try clear ho1); (try clear ho2); obtain ⟨Ao8, co8, eo8⟩ := Kd.S_slice HO375.out; subst eo8; have hcz9_0 : w7.cell? ⟨gb372, 0, none⟩ = some (.slice A0_0 l0_0.length c0_0) := (blk_cell BK372.out 0).trans rfl; have hcz9_1 : w7.cell? ⟨gb372, 1, none⟩ = some (.slice A0_1 l0_1.length c0_1) := (blk_cell BK372.out 1).trans rfl; have hcz9_2 : w7.cell? ⟨gb372, 2, none⟩ = some (.slice A0_2 l0_2.length c0_2) := (blk_cell BK372.out 2).trans rfl; have hcz9_3 : w7.cell? ⟨gb372, 3, none⟩ = some (.int .i64 a0_3) := (blk_cell BK372.out 3).trans rfl; have hfz9_0 := blk_frozen BK372.out 0; have hfz9_1 := blk_frozen BK372.out 1; have hfz9_2 := blk_frozen BK372.out 2; have hfz9_3 := blk_frozen BK372.out 3; obtain ⟨Ao10, co10, eo10⟩ := Kd.R_slice HO378.out; subst eo10; obtain ⟨Ao11, co11, eo11⟩ := Kd.R_slice HO381.out; subst eo11) | ((with_reducible refine gate_callee (f := 10) rfl ?_); refine goesL_ (some 12) rfl rfl Try.func10 (by kernel_rfl) rfl #[.agg #[.slice Ao8 t373.length co8, .slice Ao10 t376.length co10, .slice Ao11 t379.length co11, .int .i64 t382]] rfl (by (try simp only [List.map_toArray, List.map_cons, List.map_nil]); first | done | rfl | (simp only [List.length_drop, List.length_take]; rfl)) ?_; (with_reducible refine (code_Encode.calls k _ _ t373 _ _ t376 _ _ t379 t382 t383 t386 _ ?side1 ?side2 ?side3 ?side4 ?side5 ?side6 A3.out).mono ?_); (case side1 => refine (Kd.S_reads' (e := 40) (base := w.heap.size) (ok := fun k_ => True) (n := t373.length) (c := co8) ?_).2.2; exact (by (with_reducible repeat (first | apply Kd.S_alloc | apply Kd.S_drewN | apply Kd.S_drew)); exact (Kd.S_mono (Kd.S_far (p := ⟨gb372, 3, none⟩) (Kd.S_far (p := ⟨gb372, 2, none⟩) (Kd.S_far (p := ⟨gb372, 1, none⟩) (Kd.S_far (p := ⟨gb372, 0, none⟩) (Kd.S_types HO375.out BK372.out (by decide)) (fun _ hk => hk.2) (.slice Ao8 t373.length co8)) (fun _ hk => hk.2) (.slice Ao10 t376.length co10)) (fun _ hk => hk.2) (.slice Ao11 t379.length co11)) (fun _ hk => hk.2) (.int .i64 t382)) (fun _ h_ => h_.1)))); (case side2 => exact (Kd.S_reads' HO375.out).2.1); (case side3 => refine (Kd.R_reads' (e := 3) (base := w.heap.size) (ok := fun k_ => True) (n := t376.length) (c := co10) ?_).2.2; exact (by (with_reducible repeat (first | apply Kd.R_alloc | apply Kd.R_drewN | apply Kd.R_drew)); exact (Kd.R_mono (Kd.R_far (p := ⟨gb372, 3, none⟩) (Kd.R_far (p := ⟨gb372, 2, none⟩) (Kd.R_far (p := ⟨gb372, 1, none⟩) (Kd.R_far (p := ⟨gb372, 0, none⟩) (Kd.R_types HO378.out BK372.out (by decide)) (fun _ hk => hk.2) (.slice Ao8 t373.length co8)) (fun _ hk => hk.2) (.slice Ao10 t376.length co10)) (fun _ hk => hk.2) (.slice Ao11 t379.length co11)) (fun _ hk => hk.2) (.int .i64 t382)) (fun _ h_ => h_.1)))); (case side4 => exact (Kd.R_reads' HO378.out).2.1); (case side5 => refine (Kd.R_reads' (e := 9) (base := w.heap.size) (ok := fun k_ => True) (n := t379.length) (c := co11) ?_).2.2; exact (by (with_reducible repeat (first | apply Kd.R_alloc | apply Kd.R_drewN | apply Kd.R_drew)); exact (Kd.R_mono (Kd.R_far (p := ⟨gb372, 3, none⟩) (Kd.R_far (p := ⟨gb372, 2, none⟩) (Kd.R_far (p := ⟨gb372, 1, none⟩) (Kd.R_far (p := ⟨gb372, 0, none⟩) (Kd.R_types HO381.out BK372.out (by decide)) (fun _ hk => hk.2) (.slice Ao8 t373.length co8)) (fun _ hk => hk.2) (.slice Ao10 t376.length co10)) (fun _ hk => hk.2) (.slice Ao11 t379.length co11)) (fun _ hk => hk.2) (.int .i64 t382)) (fun _ h_ => h_.1)))); (case side6 => exact (Kd.R_reads' HO381.out).2.1); rintro e w12 ⟨v384, rfl, ho0, hb⟩; refine ⟨_, rfl, ?_⟩; have n0_ := Aside0.mk (Kd.S_below (by (with_reducible repeat (first | apply Kd.S_alloc | apply Kd.S_drewN | apply Kd.S_drew)); exact (Kd.S_mono (Kd.S_far (p := ⟨gb372, 3, none⟩) (Kd.S_far (p := ⟨gb372, 2, none⟩) (Kd.S_far (p := ⟨gb372, 1, none⟩) (Kd.S_far (p := ⟨gb372, 0, none⟩) (Kd.S_types HO375.out BK372.out (by decide)) (fun _ hk => hk.2) (.slice Ao8 t373.length co8)) (fun _ hk => hk.2) (.slice Ao10 t376.length co10)) (fun _ hk => hk.2) (.slice Ao11 t379.length co11)) (fun _ hk => hk.2) (.int .i64 t382)) (fun _ h_ => h_.1))) hb); have n1_ := Aside0.mk (Kd.R_below (by (with_reducible repeat (first | apply Kd.R_alloc | apply Kd.R_drewN | apply Kd.R_drew)); exact (Kd.R_mono (Kd.R_far (p := ⟨gb372, 3, none⟩) (Kd.R_far (p := ⟨gb372, 2, none⟩) (Kd.R_far (p := ⟨gb372, 1, none⟩) (Kd.R_far (p := ⟨gb372, 0, none⟩) (Kd.R_types HO378.out BK372.out (by decide)) (fun _ hk => hk.2) (.slice Ao8 t373.length co8)) (fun _ hk => hk.2) (.slice Ao10 t376.length co10)) (fun _ hk => hk.2) (.slice Ao11 t379.length co11)) (fun _ hk => hk.2) (.int .i64 t382)) (fun _ h_ => h_.1))) hb); have n2_ := Aside0.mk (Kd.R_below (by (with_reducible repeat (first | apply Kd.R_alloc | apply Kd.R_drewN | apply Kd.R_drew)); exact (Kd.R_mono (Kd.R_far (p := ⟨gb372, 3, none⟩) (Kd.R_far (p := ⟨gb372, 2, none⟩) (Kd.R_far (p := ⟨gb372, 1, none⟩) (Kd.R_far (p := ⟨gb372, 0, none⟩) (Kd.R_types HO381.out BK372.out (by decide)) (fun _ hk => hk.2) (.slice Ao8 t373.length co8)) (fun _ hk => hk.2) (.slice Ao10 t376.length co10)) (fun _ hk => hk.2) (.slice Ao11 t379.length co11)) (fun _ hk => hk.2) (.int .i64 t382)) (fun _ h_ => h_.1))) hb); have n3_ := Aside0.mk (Kd.R_lower ho0 (below_size (by repeat (first | (with_reducible first | exact HB.out | apply below_alloc | apply pw_below_drewN | apply below_drew1 | refine below_set ?_ GE372.out) | exact HB.out)))); have n4_ := Aside0.mk (blk_below (g := gb372) (o := .cells #[.slice Ao8 t373.length co8, .slice Ao10 t376.length co10, .slice Ao11 t379.length co11, .int .i64 t382] 26 (0, 0)) (by (with_reducible repeat (first | refine blk_drewN ?_ _ | refine blk_drew ?_ | refine blk_alloc ?_ _)); refine blk_put (cs := #[.slice Ao8 t373.length co8, .slice Ao10 t376.length co10, .slice Ao11 t379.length co11, .int .i64 a0_3]) ?_ 3 _ rfl; (with_reducible repeat (first | refine blk_drewN ?_ _ | refine blk_drew ?_ | refine blk_alloc ?_ _)); refine blk_put (cs := #[.slice Ao8 t373.length co8, .slice Ao10 t376.length co10, .slice A0_2 l0_2.length c0_2, .int .i64 a0_3]) ?_ 2 _ rfl; (with_reducible repeat (first | refine blk_drewN ?_ _ | refine blk_drew ?_ | refine blk_alloc ?_ _)); refine blk_put (cs := #[.slice Ao8 t373.length co8, .slice A0_1 l0_1.length c0_1, .slice A0_2 l0_2.length c0_2, .int .i64 a0_3]) ?_ 1 _ rfl; (with_reducible repeat (first | refine blk_drewN ?_ _ | refine blk_drew ?_ | refine blk_alloc ?_ _)); refine blk_put (cs := #[.slice A0_0 l0_0.length c0_0, .slice A0_1 l0_1.length c0_1, .slice A0_2 l0_2.length c0_2, .int .i64 a0_3]) ?_ 0 _ rfl; (with_reducible repeat (first | refine blk_drewN ?_ _ | refine blk_drew ?_ | refine blk_alloc ?_ _)); exact BK372.out) hb); have n5_ := Aside0.mk (below_step (by repeat (first | (with_reducible first | exact HB.out | apply below_alloc | apply pw_below_drewN | apply below_drew1 | refine below_set ?_ GE372.out) | exact HB.out)) hb); clear HO375; clear HO378; clear HO381; clear BK372; clear HB; have HO375 := n0_; have HO378 := n1_; have HO381 := n2_; have HO385 := n3_; have BK372 := n4_; have HB := n5_; clear n0_ n1_ n2_ n3_ n4_ n5_; (try clear hb); (try clear hb2); (try clear hk); (try clear hi); (try clear ho0); have hcz13_0 : w12.cell? ⟨gb372, 0, none⟩ = some (.slice Ao8 t373.length co8) := (blk_cell BK372.out 0).trans rfl; have hcz13_1 : w12.cell? ⟨gb372, 1, none⟩ = some (.slice Ao10 t376.length co10) := (blk_cell BK372.out 1).trans rfl; have hcz13_2 : w12.cell? ⟨gb372, 2, none⟩ = some (.slice Ao11 t379.length co11) := (blk_cell BK372.out 2).trans rfl; have hcz13_3 : w12.cell? ⟨gb372, 3, none⟩ = some (.int .i64 t382) := (blk_cell BK372.out 3).trans rfl; have hfz13_0 := blk_frozen BK372.out 0; have hfz13_1 := blk_frozen BK372.out 1; have hfz13_2 := blk_frozen BK372.out 2; have hfz13_3 := blk_frozen BK372.out 3))
  go_loopg [5, 6] k (fun kq v5 v6 w' => ∃ (x5_1 : Int) (x6_1 : Int), v5 = .int .i64 x5_1 ∧ v6 = .int .i64 x6_1 ∧ Aside0 (selvagelaw13_CodeLong.l0 kq t383 x5_1 x6_1 t373 t376 t379 t382 = some r) ∧ Aside0 (kq ≤ k) ∧ Aside0 (Kd.R (Kd.int .u8) 5 w' w.heap.size (fun _ => True) v384 t383) ∧ Aside0 (Kd.S k40 40 w' w.heap.size (fun _ => True) (.slice Ao8 t373.length co8) t373) ∧ Aside0 (Kd.R (Kd.int .i64) 3 w' w.heap.size (fun _ => True) (.slice Ao10 t376.length co10) t376) ∧ Aside0 (Kd.R Kd.string 9 w' w.heap.size (fun _ => True) (.slice Ao11 t379.length co11) t379) ∧ Aside0 (w'.heap[gb372]? = some (.cells #[(.slice Ao8 t373.length co8), (.slice Ao10 t376.length co10), (.slice Ao11 t379.length co11), .int .i64 t382] 26 (0, 0))) ∧ Aside0 (Below w.heap.size w w'))
  case atStart => exact ⟨(wrap64 (7 + (wrap64 (8 * (t376.length : Int))))), (0), (by first | rfl | (simp; done) | (simp [*]; done)), (by first | rfl | (simp; done) | (simp [*]; done)), H', ⟨Nat.le_refl _⟩, ⟨by (with_reducible repeat (first | apply Kd.R_alloc | apply Kd.R_drewN | apply Kd.R_drew)); exact HO385.out⟩, ⟨by (with_reducible repeat (first | apply Kd.S_alloc | apply Kd.S_drewN | apply Kd.S_drew)); exact HO375.out⟩, ⟨by (with_reducible repeat (first | apply Kd.R_alloc | apply Kd.R_drewN | apply Kd.R_drew)); exact HO378.out⟩, ⟨by (with_reducible repeat (first | apply Kd.R_alloc | apply Kd.R_drewN | apply Kd.R_drew)); exact HO381.out⟩, ⟨by (with_reducible repeat (first | refine blk_drewN ?_ _ | refine blk_drew ?_ | refine blk_alloc ?_ _)); exact BK372.out⟩, ⟨by repeat (first | (with_reducible first | exact HB.out | apply below_alloc | apply pw_below_drewN | apply below_drew1 | refine below_set ?_ GE372.out) | exact HB.out)⟩⟩
  case round =>
   clear H'
   try clear c1
   try clear p2
   try clear c4
   try clear c4b0
   try clear c4b1
   try clear c6
   try clear p6
   try clear c9
   try clear c10
   try clear hcz13_0
   try clear hcz13_1
   try clear hcz13_2
   try clear hcz13_3
   try clear hcz6_0
   try clear hcz6_1
   try clear hcz6_2
   try clear hcz6_3
   try clear hcz9_0
   try clear hcz9_1
   try clear hcz9_2
   try clear hcz9_3
   try clear hfz13_0
   try clear hfz13_1
   try clear hfz13_2
   try clear hfz13_3
   try clear hfz6_0
   try clear hfz6_1
   try clear hfz6_2
   try clear hfz6_3
   try clear hfz9_0
   try clear hfz9_1
   try clear hfz9_2
   try clear hfz9_3
   obtain ⟨x5_1, x6_1, rfl, rfl, HA, HK1, HO_3, HO_373000, HO_373001, HO_373002, BK372, HB⟩ := hrel
   cases gk with
   | zero => exact absurd HA.out (by simp [selvagelaw13_CodeLong.l0])
   | succ k1 =>
    have H := HA.out
    clear HA
    simp only [selvagelaw13_CodeLong.l0] at H
    by_cases c14 : x6_1 < (t379.length : Int)
    ·rw [if_pos c14] at H
     have c14b0 : decide (x6_1 < (t379.length : Int)) = true := decide_eq_true c14
     clear c14
     by_cases c15 : 0 ≤ x6_1
     ·rw [if_pos c15] at H
      have c15b0 : decide (0 ≤ x6_1) = true := decide_eq_true c15
      clear c15
      have H' := Aside0.mk H
      clear H
      have hcz16_0 : wr.cell? ⟨gb372, 0, none⟩ = some (.slice Ao8 t373.length co8) := (blk_cell BK372.out 0).trans rfl
      have hcz16_1 : wr.cell? ⟨gb372, 1, none⟩ = some (.slice Ao10 t376.length co10) := (blk_cell BK372.out 1).trans rfl
      have hcz16_2 : wr.cell? ⟨gb372, 2, none⟩ = some (.slice Ao11 t379.length co11) := (blk_cell BK372.out 2).trans rfl
      have hcz16_3 : wr.cell? ⟨gb372, 3, none⟩ = some (.int .i64 t382) := (blk_cell BK372.out 3).trans rfl
      have hfz16_0 := blk_frozen BK372.out 0
      have hfz16_1 := blk_frozen BK372.out 1
      have hfz16_2 := blk_frozen BK372.out 2
      have hfz16_3 := blk_frozen BK372.out 3
      have p389 : 0 ≤ (x6_1 : Int) := of_decide_eq_true (by first | (with_reducible assumption) | assumption)
      have q389 : x6_1 < (t379.length : Int) := of_decide_eq_true (by first | (with_reducible assumption) | assumption)
      obtain ⟨ad389, e389, hx389_0⟩ := Kd.at_string (Kd.R_reads' HO_373002.out).2.2 x6_1 p389 q389
      cases e389
      replace p389 := eq_true p389
      replace q389 := eq_true q389
      go_wp2
      go_roundg k1
      case measure => have := HK1.out; omega
      case rel => exact ⟨(wrap64 ((wrap64 (x5_1 + 1)) + ((rdOf ByteArray.empty t379 x6_1).size : Int))), (wrap64 (x6_1 + 1)), (by first | rfl | (simp; done) | (simp [*]; done)), (by first | rfl | (simp; done) | (simp [*]; done)), H', ⟨by have := HK1.out; omega⟩, ⟨by (with_reducible repeat (first | apply Kd.R_alloc | apply Kd.R_drewN | apply Kd.R_drew)); exact HO_3.out⟩, ⟨by (with_reducible repeat (first | apply Kd.S_alloc | apply Kd.S_drewN | apply Kd.S_drew)); exact HO_373000.out⟩, ⟨by (with_reducible repeat (first | apply Kd.R_alloc | apply Kd.R_drewN | apply Kd.R_drew)); exact HO_373001.out⟩, ⟨by (with_reducible repeat (first | apply Kd.R_alloc | apply Kd.R_drewN | apply Kd.R_drew)); exact HO_373002.out⟩, ⟨by (with_reducible repeat (first | refine blk_drewN ?_ _ | refine blk_drew ?_ | refine blk_alloc ?_ _)); exact BK372.out⟩, ⟨by repeat (first | (with_reducible first | exact HB.out | apply below_alloc | apply pw_below_drewN | apply below_drew1 | refine below_set ?_ GE372.out) | exact HB.out)⟩⟩
     ·rw [if_neg c15] at H
      exact absurd H (by simp)
    ·rw [if_neg c14] at H
     have c14b0 : decide (x6_1 < (t379.length : Int)) = false := decide_eq_false c14
     clear c14
     have H' := Aside0.mk H
     clear H
     have hcz17_0 : wr.cell? ⟨gb372, 0, none⟩ = some (.slice Ao8 t373.length co8) := (blk_cell BK372.out 0).trans rfl
     have hcz17_1 : wr.cell? ⟨gb372, 1, none⟩ = some (.slice Ao10 t376.length co10) := (blk_cell BK372.out 1).trans rfl
     have hcz17_2 : wr.cell? ⟨gb372, 2, none⟩ = some (.slice Ao11 t379.length co11) := (blk_cell BK372.out 2).trans rfl
     have hcz17_3 : wr.cell? ⟨gb372, 3, none⟩ = some (.int .i64 t382) := (blk_cell BK372.out 3).trans rfl
     have hfz17_0 := blk_frozen BK372.out 0
     have hfz17_1 := blk_frozen BK372.out 1
     have hfz17_2 := blk_frozen BK372.out 2
     have hfz17_3 := blk_frozen BK372.out 3
     go_wp2
     go_loopg [5, 7] k1 (fun kq v5 v7 w' => ∃ (x5_2 : Int) (x7_2 : Int), v5 = .int .i64 x5_2 ∧ v7 = .int .i64 x7_2 ∧ Aside0 (selvagelaw13_CodeLong.l1 kq t383 x5_2 x7_2 t373 t376 t379 t382 = some r) ∧ Aside0 (kq ≤ k1) ∧ Aside0 (Kd.R (Kd.int .u8) 5 w' w.heap.size (fun _ => True) v384 t383) ∧ Aside0 (Kd.S k40 40 w' w.heap.size (fun _ => True) (.slice Ao8 t373.length co8) t373) ∧ Aside0 (Kd.R (Kd.int .i64) 3 w' w.heap.size (fun _ => True) (.slice Ao10 t376.length co10) t376) ∧ Aside0 (Kd.R Kd.string 9 w' w.heap.size (fun _ => True) (.slice Ao11 t379.length co11) t379) ∧ Aside0 (w'.heap[gb372]? = some (.cells #[(.slice Ao8 t373.length co8), (.slice Ao10 t376.length co10), (.slice Ao11 t379.length co11), .int .i64 t382] 26 (0, 0))) ∧ Aside0 (Below w.heap.size w w'))
     case atStart => exact ⟨(x5_1), (0), (by first | rfl | (simp; done) | (simp [*]; done)), (by first | rfl | (simp; done) | (simp [*]; done)), H', ⟨Nat.le_refl _⟩, ⟨by (with_reducible repeat (first | apply Kd.R_alloc | apply Kd.R_drewN | apply Kd.R_drew)); exact HO_3.out⟩, ⟨by (with_reducible repeat (first | apply Kd.S_alloc | apply Kd.S_drewN | apply Kd.S_drew)); exact HO_373000.out⟩, ⟨by (with_reducible repeat (first | apply Kd.R_alloc | apply Kd.R_drewN | apply Kd.R_drew)); exact HO_373001.out⟩, ⟨by (with_reducible repeat (first | apply Kd.R_alloc | apply Kd.R_drewN | apply Kd.R_drew)); exact HO_373002.out⟩, ⟨by (with_reducible repeat (first | refine blk_drewN ?_ _ | refine blk_drew ?_ | refine blk_alloc ?_ _)); exact BK372.out⟩, ⟨by repeat (first | (with_reducible first | exact HB.out | apply below_alloc | apply pw_below_drewN | apply below_drew1 | refine below_set ?_ GE372.out) | exact HB.out)⟩⟩
     case round =>
      clear H'
      try clear c1
      try clear p2
      try clear p3
      try clear q3
      try clear hx3
      try clear c4
      try clear c4b0
      try clear c4b1
      try clear c6
      try clear p6
      try clear c9
      try clear c10
      try clear c14
      try clear c14b0
      try clear c15
      try clear c15b0
      try clear hcz13_0
      try clear hcz13_1
      try clear hcz13_2
      try clear hcz13_3
      try clear hcz16_0
      try clear hcz16_1
      try clear hcz16_2
      try clear hcz16_3
      try clear hcz17_0
      try clear hcz17_1
      try clear hcz17_2
      try clear hcz17_3
      try clear hcz6_0
      try clear hcz6_1
      try clear hcz6_2
      try clear hcz6_3
      try clear hcz9_0
      try clear hcz9_1
      try clear hcz9_2
      try clear hcz9_3
      try clear hfz13_0
      try clear hfz13_1
      try clear hfz13_2
      try clear hfz13_3
      try clear hfz16_0
      try clear hfz16_1
      try clear hfz16_2
      try clear hfz16_3
      try clear hfz17_0
      try clear hfz17_1
      try clear hfz17_2
      try clear hfz17_3
      try clear hfz6_0
      try clear hfz6_1
      try clear hfz6_2
      try clear hfz6_3
      try clear hfz9_0
      try clear hfz9_1
      try clear hfz9_2
      try clear hfz9_3
      try clear hx389_0
      try clear p2
      try clear p389
      try clear p6
      try clear q389
      obtain ⟨x5_2, x7_2, rfl, rfl, HA, HK2, HO_3, HO_373000, HO_373001, HO_373002, BK372, HB⟩ := hrel
      cases gk with
      | zero => exact absurd HA.out (by simp [selvagelaw13_CodeLong.l1])
      | succ k2 =>
       have H := HA.out
       clear HA
       simp only [selvagelaw13_CodeLong.l1] at H
       by_cases c18 : x7_2 < (t373.length : Int)
       ·rw [if_pos c18] at H
        have c18b0 : decide (x7_2 < (t373.length : Int)) = true := decide_eq_true c18
        clear c18
        by_cases c19 : 0 ≤ x7_2
        ·rw [if_pos c19] at H
         have c19b0 : decide (0 ≤ x7_2) = true := decide_eq_true c19
         clear c19
         have H' := Aside0.mk H
         clear H
         have hcz20_0 : wr.cell? ⟨gb372, 0, none⟩ = some (.slice Ao8 t373.length co8) := (blk_cell BK372.out 0).trans rfl
         have hcz20_1 : wr.cell? ⟨gb372, 1, none⟩ = some (.slice Ao10 t376.length co10) := (blk_cell BK372.out 1).trans rfl
         have hcz20_2 : wr.cell? ⟨gb372, 2, none⟩ = some (.slice Ao11 t379.length co11) := (blk_cell BK372.out 2).trans rfl
         have hcz20_3 : wr.cell? ⟨gb372, 3, none⟩ = some (.int .i64 t382) := (blk_cell BK372.out 3).trans rfl
         have hfz20_0 := blk_frozen BK372.out 0
         have hfz20_1 := blk_frozen BK372.out 1
         have hfz20_2 := blk_frozen BK372.out 2
         have hfz20_3 := blk_frozen BK372.out 3
         have p390 : 0 ≤ (x7_2 : Int) := of_decide_eq_true (by first | (with_reducible assumption) | assumption)
         have q390 : x7_2 < (t373.length : Int) := of_decide_eq_true (by first | (with_reducible assumption) | assumption)
         obtain ⟨ad390, A390_3, c390_3, e390, hx390_0, hx390_1, hx390_2, hx390_3, hl390_3, hi390_3⟩ := at_T40 (Kd.S_reads' HO_373000.out).2.2 x7_2 p390 q390
         cases e390
         obtain ⟨ce390, hce390, hMe390, hcc390⟩ := Kd.S_get HO_373000.out z40 x7_2 p390 (by first | exact q390 | exact of_decide_eq_true (by first | (with_reducible assumption) | assumption) | (have e_ := (Kd.S_reads' HO_373000.out).1; omega))
         obtain ⟨ve390_3, rfl, ge390_3⟩ := k40_openM hMe390
         have hv390_3 := hcc390 3 _ rfl
         rw [add_field _ _ 3 (by omega)] at hv390_3
         replace hv390_3 := Option.some.inj (hv390_3.symm.trans hx390_3)
         rw [hv390_3] at ge390_3
         have HL390_3 := Aside0.mk (show Kd.R k42 42 _ _ _ _ ((rd_T40 t373 x7_2).f3) from ge390_3)
         clear hv390_3 ge390_3
         clear hcc390 hce390
         have HR390_3 := Aside0.mk hi390_3
         have HC390_3 := Aside0.mk hl390_3
         clear hi390_3 hl390_3
         replace p390 := eq_true p390
         replace q390 := eq_true q390
         go_wp2
         go_roundg k2
         case measure => have := HK1.out; have := HK2.out; omega
         case rel => exact ⟨(wrap64 ((wrap64 (x5_2 + 5)) + (wrap64 (5 * (((rd_T40 t373 x7_2).f3).length : Int))))), (wrap64 (x7_2 + 1)), (by first | rfl | (simp; done) | (simp [*]; done)), (by first | rfl | (simp; done) | (simp [*]; done)), H', ⟨by have := HK1.out; have := HK2.out; omega⟩, ⟨by (with_reducible repeat (first | apply Kd.R_alloc | apply Kd.R_drewN | apply Kd.R_drew)); exact HO_3.out⟩, ⟨by (with_reducible repeat (first | apply Kd.S_alloc | apply Kd.S_drewN | apply Kd.S_drew)); exact HO_373000.out⟩, ⟨by (with_reducible repeat (first | apply Kd.R_alloc | apply Kd.R_drewN | apply Kd.R_drew)); exact HO_373001.out⟩, ⟨by (with_reducible repeat (first | apply Kd.R_alloc | apply Kd.R_drewN | apply Kd.R_drew)); exact HO_373002.out⟩, ⟨by (with_reducible repeat (first | refine blk_drewN ?_ _ | refine blk_drew ?_ | refine blk_alloc ?_ _)); exact BK372.out⟩, ⟨by repeat (first | (with_reducible first | exact HB.out | apply below_alloc | apply pw_below_drewN | apply below_drew1 | refine below_set ?_ GE372.out) | exact HB.out)⟩⟩
        ·rw [if_neg c19] at H
         exact absurd H (by simp)
       ·rw [if_neg c18] at H
        have c18b0 : decide (x7_2 < (t373.length : Int)) = false := decide_eq_false c18
        clear c18
        by_cases c21 : (t383.length : Int) = x5_2
        ·rw [if_pos c21] at H
         have c21b0 : ((t383.length : Int) == x5_2) = true := beq_iff_eq.mpr c21
         have c21b1 : ((t383.length : Int) != x5_2) = false := bne_eq_false_iff_eq.mpr c21
         clear c21
         replace H := Option.bind_eq_some_iff.mp H
         obtain ⟨t391, A220, H⟩ := H
         replace H : (some t391) = some r := H
         have A22 := Aside0.mk A220
         clear A220
         obtain rfl := Option.some.inj H
         have hcz23_0 : wr.cell? ⟨gb372, 0, none⟩ = some (.slice Ao8 t373.length co8) := (blk_cell BK372.out 0).trans rfl
         have hcz23_1 : wr.cell? ⟨gb372, 1, none⟩ = some (.slice Ao10 t376.length co10) := (blk_cell BK372.out 1).trans rfl
         have hcz23_2 : wr.cell? ⟨gb372, 2, none⟩ = some (.slice Ao11 t379.length co11) := (blk_cell BK372.out 2).trans rfl
         have hcz23_3 : wr.cell? ⟨gb372, 3, none⟩ = some (.int .i64 t382) := (blk_cell BK372.out 3).trans rfl
         have hfz23_0 := blk_frozen BK372.out 0
         have hfz23_1 := blk_frozen BK372.out 1
         have hfz23_2 := blk_frozen BK372.out 2
         have hfz23_3 := blk_frozen BK372.out 3
         obtain ⟨Ao24, co24, eo24⟩ := Kd.R_slice HO_3.out
         subst eo24
         go_wp2_with (first | (go_at_call 15; (with_reducible refine (selvagelaw13_lives.calls k2  t391 _ A22.out).mono ?_); rintro e w25 ⟨rfl, hb⟩; have n0_ := Aside0.mk (Kd.R_below (by (with_reducible repeat (first | apply Kd.R_alloc | apply Kd.R_drewN | apply Kd.R_drew)); exact HO_3.out) hb); have n1_ := Aside0.mk (Kd.S_below (by (with_reducible repeat (first | apply Kd.S_alloc | apply Kd.S_drewN | apply Kd.S_drew)); exact HO_373000.out) hb); have n2_ := Aside0.mk (Kd.R_below (by (with_reducible repeat (first | apply Kd.R_alloc | apply Kd.R_drewN | apply Kd.R_drew)); exact HO_373001.out) hb); have n3_ := Aside0.mk (Kd.R_below (by (with_reducible repeat (first | apply Kd.R_alloc | apply Kd.R_drewN | apply Kd.R_drew)); exact HO_373002.out) hb); have n4_ := Aside0.mk (blk_below (g := gb372) (o := .cells #[.slice Ao8 t373.length co8, .slice Ao10 t376.length co10, .slice Ao11 t379.length co11, .int .i64 t382] 26 (0, 0)) (by (with_reducible repeat (first | refine blk_drewN ?_ _ | refine blk_drew ?_ | refine blk_alloc ?_ _)); exact BK372.out) hb); have n5_ := Aside0.mk (below_step (by repeat (first | (with_reducible first | exact HB.out | apply below_alloc | apply pw_below_drewN | apply below_drew1 | refine below_set ?_ GE372.out) | exact HB.out)) hb); clear HO_3; clear HO_373000; clear HO_373001; clear HO_373002; clear BK372; clear HB; have HO_3 := n0_; have HO_373000 := n1_; have HO_373001 := n2_; have HO_373002 := n3_; have BK372 := n4_; have HB := n5_; clear n0_ n1_ n2_ n3_ n4_ n5_; (try clear hb); (try clear hb2); (try clear hk); (try clear hi)))
         go_ret
         exact ⟨by first | rfl | (simp [errW_none, errW_some] <;> rfl) | (simp [*, errW_none, errW_some] <;> rfl), by repeat (first | (with_reducible first | exact HB.out | apply below_alloc | apply pw_below_drewN | apply below_drew1 | refine below_set ?_ GE372.out) | exact HB.out)⟩
        ·rw [if_neg c21] at H
         have c21b0 : ((t383.length : Int) == x5_2) = false := beq_eq_false_iff_ne.mpr c21
         have c21b1 : ((t383.length : Int) != x5_2) = true := bne_iff_ne.mpr c21
         obtain rfl := Option.some.inj H
         have hcz26_0 : wr.cell? ⟨gb372, 0, none⟩ = some (.slice Ao8 t373.length co8) := (blk_cell BK372.out 0).trans rfl
         have hcz26_1 : wr.cell? ⟨gb372, 1, none⟩ = some (.slice Ao10 t376.length co10) := (blk_cell BK372.out 1).trans rfl
         have hcz26_2 : wr.cell? ⟨gb372, 2, none⟩ = some (.slice Ao11 t379.length co11) := (blk_cell BK372.out 2).trans rfl
         have hcz26_3 : wr.cell? ⟨gb372, 3, none⟩ = some (.int .i64 t382) := (blk_cell BK372.out 3).trans rfl
         have hfz26_0 := blk_frozen BK372.out 0
         have hfz26_1 := blk_frozen BK372.out 1
         have hfz26_2 := blk_frozen BK372.out 2
         have hfz26_3 := blk_frozen BK372.out 3
         obtain ⟨Ao27, co27, eo27⟩ := Kd.R_slice HO_3.out
         subst eo27
         go_wp2
         go_ret
         exact ⟨by first | rfl | (simp [errW_none, errW_some] <;> rfl) | (simp [*, errW_none, errW_some] <;> rfl), by repeat (first | (with_reducible first | exact HB.out | apply below_alloc | apply pw_below_drewN | apply below_drew1 | refine below_set ?_ GE372.out) | exact HB.out)⟩
 ·rw [if_neg c4] at H
  have c4b0 : (t386 == 0) = false := beq_eq_false_iff_ne.mpr c4
  have c4b1 : (t386 != 0) = true := bne_iff_ne.mpr c4
  by_cases c28 : (t383.length : Int) = 0
  ·rw [if_pos c28] at H
   have c28b0 : ((t383.length : Int) == 0) = true := beq_iff_eq.mpr c28
   have c28b1 : ((t383.length : Int) != 0) = false := bne_eq_false_iff_eq.mpr c28
   clear c28
   replace H := Option.bind_eq_some_iff.mp H
   obtain ⟨t387, A290, H⟩ := H
   replace H : (if t387 = true then (some false) else ((selvagelaw13_lives.f k).bind fun t388 => (some t388))) = some r := H
   have A29 := Aside0.mk A290
   clear A290
   by_cases c30 : t387 = true
   ·subst c30
    have H1 : (some false) = some r := by rw [if_pos rfl] at H; exact H
    clear H
    have H := H1
    clear H1
    obtain rfl := Option.some.inj H
    go_enter Try.func6, Try.ntmps6
    go_wp2_with (first | ((with_reducible refine gate_dst (N := 1) rfl ?_); refine box_event ?hg (N := 1) ?hd (cs := #[.slice A0_0 l0_0.length c0_0, .slice A0_1 l0_1.length c0_1, .slice A0_2 l0_2.length c0_2, .int .i64 a0_3]) (t := 26) ?hr ?_; (case hd => rfl); (case hg => rfl); (case hr => first | (go_simp; done) | (go_simp; rfl)); intro gb372 hg w31 hbox hb; have n0_ := Aside0.mk (below_step (by repeat (first | (with_reducible first | exact HB.out | apply below_alloc | apply pw_below_drewN | apply below_drew1) | exact HB.out)) hb); have n1_ := Aside0.mk (hbox); have n2_ := Aside0.mk ((by rw [hg]; exact (below_size (by repeat (first | (with_reducible first | exact HB.out | apply below_alloc | apply pw_below_drewN | apply below_drew1) | exact HB.out))) : w.heap.size ≤ gb372)); have n3_ := Aside0.mk ((by rw [hg]; exact (below_size (by repeat (first | (with_reducible first | exact HB.out | apply below_alloc | apply pw_below_drewN | apply below_drew1) | exact HB.out))) : w.heap.size ≤ gb372)); clear HB; have HB := n0_; have BK372 := n1_; have GW372 := n2_; have GE372 := n3_; clear n0_ n1_ n2_ n3_; clear hb hbox hg; have hcz32_0 : w31.cell? ⟨gb372, 0, none⟩ = some (.slice A0_0 l0_0.length c0_0) := (blk_cell BK372.out 0).trans rfl; have hcz32_1 : w31.cell? ⟨gb372, 1, none⟩ = some (.slice A0_1 l0_1.length c0_1) := (blk_cell BK372.out 1).trans rfl; have hcz32_2 : w31.cell? ⟨gb372, 2, none⟩ = some (.slice A0_2 l0_2.length c0_2) := (blk_cell BK372.out 2).trans rfl; have hcz32_3 : w31.cell? ⟨gb372, 3, none⟩ = some (.int .i64 a0_3) := (blk_cell BK372.out 3).trans rfl; have hfz32_0 := blk_frozen BK372.out 0; have hfz32_1 := blk_frozen BK372.out 1; have hfz32_2 := blk_frozen BK372.out 2; have hfz32_3 := blk_frozen BK372.out 3) | ((with_reducible refine gate_callee (f := 9) rfl ?_); refine goesL_ (some 9) rfl rfl Try.func9 (by kernel_rfl) rfl #[.agg #[.slice A0_0 l0_0.length c0_0, .slice A0_1 l0_1.length c0_1, .slice A0_2 l0_2.length c0_2, .int .i64 a0_3]] rfl (by (try simp only [List.map_toArray, List.map_cons, List.map_nil]); first | done | rfl | (simp only [List.length_drop, List.length_take]; rfl)) ?_; (with_reducible refine (selvageref13_Cut.calls k _ _ l0_0 _ _ l0_1 _ _ l0_2 a0_3 t373 t376 t379 t382 _ ?side1 ?side2 ?side3 ?side4 ?side5 ?side6 A2.out).mono ?_); (case side1 => repeat (first | exact (Kd.C_below HR0_0.out HB.out) | (with_reducible refine Kd.C_alloc ?_ _) | (with_reducible refine Kd.C_drewN ?_ _) | (with_reducible refine Kd.C_drew ?_))); (case side2 => exact HC0_0.out); (case side3 => repeat (first | exact (Kd.C_below HR0_1.out HB.out) | (with_reducible refine Kd.C_alloc ?_ _) | (with_reducible refine Kd.C_drewN ?_ _) | (with_reducible refine Kd.C_drew ?_))); (case side4 => exact HC0_1.out); (case side5 => repeat (first | exact (Kd.C_below HR0_2.out HB.out) | (with_reducible refine Kd.C_alloc ?_ _) | (with_reducible refine Kd.C_drewN ?_ _) | (with_reducible refine Kd.C_drew ?_))); (case side6 => exact HC0_2.out); rintro e w33 ⟨v374, v377, v380, rfl, ho0, ho1, ho2, hb⟩; refine ⟨_, rfl, ?_⟩; have n0_ := Aside0.mk (Kd.S_lower ho0 (below_size (by repeat (first | (with_reducible first | exact HB.out | apply below_alloc | apply pw_below_drewN | apply below_drew1 | refine below_set ?_ GE372.out) | exact HB.out)))); have n1_ := Aside0.mk (Kd.R_lower ho1 (below_size (by repeat (first | (with_reducible first | exact HB.out | apply below_alloc | apply pw_below_drewN | apply below_drew1 | refine below_set ?_ GE372.out) | exact HB.out)))); have n2_ := Aside0.mk (Kd.R_lower ho2 (below_size (by repeat (first | (with_reducible first | exact HB.out | apply below_alloc | apply pw_below_drewN | apply below_drew1 | refine below_set ?_ GE372.out) | exact HB.out)))); have n3_ := Aside0.mk (blk_below (g := gb372) (o := .cells #[.slice A0_0 l0_0.length c0_0, .slice A0_1 l0_1.length c0_1, .slice A0_2 l0_2.length c0_2, .int .i64 a0_3] 26 (0, 0)) (by (with_reducible repeat (first | refine blk_drewN ?_ _ | refine blk_drew ?_ | refine blk_alloc ?_ _)); exact BK372.out) hb); have n4_ := Aside0.mk (below_step (by repeat (first | (with_reducible first | exact HB.out | apply below_alloc | apply pw_below_drewN | apply below_drew1 | refine below_set ?_ GE372.out) | exact HB.out)) hb); clear BK372; clear HB; have HO375 := n0_; have HO378 := n1_; have HO381 := n2_; have BK372 := n3_; have HB := n4_; clear n0_ n1_ n2_ n3_ n4_; (try clear hb); (try clear hb2); (try clear hk); (try clear hi); (try clear ho0); (try clear ho1); (try clear ho2); obtain ⟨Ao34, co34, eo34⟩ := Kd.S_slice HO375.out; subst eo34; have hcz35_0 : w33.cell? ⟨gb372, 0, none⟩ = some (.slice A0_0 l0_0.length c0_0) := (blk_cell BK372.out 0).trans rfl; have hcz35_1 : w33.cell? ⟨gb372, 1, none⟩ = some (.slice A0_1 l0_1.length c0_1) := (blk_cell BK372.out 1).trans rfl; have hcz35_2 : w33.cell? ⟨gb372, 2, none⟩ = some (.slice A0_2 l0_2.length c0_2) := (blk_cell BK372.out 2).trans rfl; have hcz35_3 : w33.cell? ⟨gb372, 3, none⟩ = some (.int .i64 a0_3) := (blk_cell BK372.out 3).trans rfl; have hfz35_0 := blk_frozen BK372.out 0; have hfz35_1 := blk_frozen BK372.out 1; have hfz35_2 := blk_frozen BK372.out 2; have hfz35_3 := blk_frozen BK372.out 3; obtain ⟨Ao36, co36, eo36⟩ := Kd.R_slice HO378.out; subst eo36; obtain ⟨Ao37, co37, eo37⟩ := Kd.R_slice HO381.out; subst eo37) | ((with_reducible refine gate_callee (f := 10) rfl ?_); refine goesL_ (some 12) rfl rfl Try.func10 (by kernel_rfl) rfl #[.agg #[.slice Ao34 t373.length co34, .slice Ao36 t376.length co36, .slice Ao37 t379.length co37, .int .i64 t382]] rfl (by (try simp only [List.map_toArray, List.map_cons, List.map_nil]); first | done | rfl | (simp only [List.length_drop, List.length_take]; rfl)) ?_; (with_reducible refine (code_Encode.calls k _ _ t373 _ _ t376 _ _ t379 t382 t383 t386 _ ?side1 ?side2 ?side3 ?side4 ?side5 ?side6 A3.out).mono ?_); (case side1 => refine (Kd.S_reads' (e := 40) (base := w.heap.size) (ok := fun k_ => True) (n := t373.length) (c := co34) ?_).2.2; exact (by (with_reducible repeat (first | apply Kd.S_alloc | apply Kd.S_drewN | apply Kd.S_drew)); exact (Kd.S_mono (Kd.S_far (p := ⟨gb372, 3, none⟩) (Kd.S_far (p := ⟨gb372, 2, none⟩) (Kd.S_far (p := ⟨gb372, 1, none⟩) (Kd.S_far (p := ⟨gb372, 0, none⟩) (Kd.S_types HO375.out BK372.out (by decide)) (fun _ hk => hk.2) (.slice Ao34 t373.length co34)) (fun _ hk => hk.2) (.slice Ao36 t376.length co36)) (fun _ hk => hk.2) (.slice Ao37 t379.length co37)) (fun _ hk => hk.2) (.int .i64 t382)) (fun _ h_ => h_.1)))); (case side2 => exact (Kd.S_reads' HO375.out).2.1); (case side3 => refine (Kd.R_reads' (e := 3) (base := w.heap.size) (ok := fun k_ => True) (n := t376.length) (c := co36) ?_).2.2; exact (by (with_reducible repeat (first | apply Kd.R_alloc | apply Kd.R_drewN | apply Kd.R_drew)); exact (Kd.R_mono (Kd.R_far (p := ⟨gb372, 3, none⟩) (Kd.R_far (p := ⟨gb372, 2, none⟩) (Kd.R_far (p := ⟨gb372, 1, none⟩) (Kd.R_far (p := ⟨gb372, 0, none⟩) (Kd.R_types HO378.out BK372.out (by decide)) (fun _ hk => hk.2) (.slice Ao34 t373.length co34)) (fun _ hk => hk.2) (.slice Ao36 t376.length co36)) (fun _ hk => hk.2) (.slice Ao37 t379.length co37)) (fun _ hk => hk.2) (.int .i64 t382)) (fun _ h_ => h_.1)))); (case side4 => exact (Kd.R_reads' HO378.out).2.1); (case side5 => refine (Kd.R_reads' (e := 9) (base := w.heap.size) (ok := fun k_ => True) (n := t379.length) (c := co37) ?_).2.2; exact (by (with_reducible repeat (first | apply Kd.R_alloc | apply Kd.R_drewN | apply Kd.R_drew)); exact (Kd.R_mono (Kd.R_far (p := ⟨gb372, 3, none⟩) (Kd.R_far (p := ⟨gb372, 2, none⟩) (Kd.R_far (p := ⟨gb372, 1, none⟩) (Kd.R_far (p := ⟨gb372, 0, none⟩) (Kd.R_types HO381.out BK372.out (by decide)) (fun _ hk => hk.2) (.slice Ao34 t373.length co34)) (fun _ hk => hk.2) (.slice Ao36 t376.length co36)) (fun _ hk => hk.2) (.slice Ao37 t379.length co37)) (fun _ hk => hk.2) (.int .i64 t382)) (fun _ h_ => h_.1)))); (case side6 => exact (Kd.R_reads' HO381.out).2.1); rintro e w38 ⟨v384, rfl, ho0, hb⟩; refine ⟨_, rfl, ?_⟩; have n0_ := Aside0.mk (Kd.S_below (by (with_reducible repeat (first | apply Kd.S_alloc | apply Kd.S_drewN | apply Kd.S_drew)); exact (Kd.S_mono (Kd.S_far (p := ⟨gb372, 3, none⟩) (Kd.S_far (p := ⟨gb372, 2, none⟩) (Kd.S_far (p := ⟨gb372, 1, none⟩) (Kd.S_far (p := ⟨gb372, 0, none⟩) (Kd.S_types HO375.out BK372.out (by decide)) (fun _ hk => hk.2) (.slice Ao34 t373.length co34)) (fun _ hk => hk.2) (.slice Ao36 t376.length co36)) (fun _ hk => hk.2) (.slice Ao37 t379.length co37)) (fun _ hk => hk.2) (.int .i64 t382)) (fun _ h_ => h_.1))) hb); have n1_ := Aside0.mk (Kd.R_below (by (with_reducible repeat (first | apply Kd.R_alloc | apply Kd.R_drewN | apply Kd.R_drew)); exact (Kd.R_mono (Kd.R_far (p := ⟨gb372, 3, none⟩) (Kd.R_far (p := ⟨gb372, 2, none⟩) (Kd.R_far (p := ⟨gb372, 1, none⟩) (Kd.R_far (p := ⟨gb372, 0, none⟩) (Kd.R_types HO378.out BK372.out (by decide)) (fun _ hk => hk.2) (.slice Ao34 t373.length co34)) (fun _ hk => hk.2) (.slice Ao36 t376.length co36)) (fun _ hk => hk.2) (.slice Ao37 t379.length co37)) (fun _ hk => hk.2) (.int .i64 t382)) (fun _ h_ => h_.1))) hb); have n2_ := Aside0.mk (Kd.R_below (by (with_reducible repeat (first | apply Kd.R_alloc | apply Kd.R_drewN | apply Kd.R_drew)); exact (Kd.R_mono (Kd.R_far (p := ⟨gb372, 3, none⟩) (Kd.R_far (p := ⟨gb372, 2, none⟩) (Kd.R_far (p := ⟨gb372, 1, none⟩) (Kd.R_far (p := ⟨gb372, 0, none⟩) (Kd.R_types HO381.out BK372.out (by decide)) (fun _ hk => hk.2) (.slice Ao34 t373.length co34)) (fun _ hk => hk.2) (.slice Ao36 t376.length co36)) (fun _ hk => hk.2) (.slice Ao37 t379.length co37)) (fun _ hk => hk.2) (.int .i64 t382)) (fun _ h_ => h_.1))) hb); have n3_ := Aside0.mk (Kd.R_lower ho0 (below_size (by repeat (first | (with_reducible first | exact HB.out | apply below_alloc | apply pw_below_drewN | apply below_drew1 | refine below_set ?_ GE372.out) | exact HB.out)))); have n4_ := Aside0.mk (blk_below (g := gb372) (o := .cells #[.slice Ao34 t373.length co34, .slice Ao36 t376.length co36, .slice Ao37 t379.length co37, .int .i64 t382] 26 (0, 0)) (by (with_reducible repeat (first | refine blk_drewN ?_ _ | refine blk_drew ?_ | refine blk_alloc ?_ _)); refine blk_put (cs := #[.slice Ao34 t373.length co34, .slice Ao36 t376.length co36, .slice Ao37 t379.length co37, .int .i64 a0_3]) ?_ 3 _ rfl; (with_reducible repeat (first | refine blk_drewN ?_ _ | refine blk_drew ?_ | refine blk_alloc ?_ _)); refine blk_put (cs := #[.slice Ao34 t373.length co34, .slice Ao36 t376.length co36, .slice A0_2 l0_2.length c0_2, .int .i64 a0_3]) ?_ 2 _ rfl; (with_reducible repeat (first | refine blk_drewN ?_ _ | refine blk_drew ?_ | refine blk_alloc ?_ _)); refine blk_put (cs := #[.slice Ao34 t373.length co34, .slice A0_1 l0_1.length c0_1, .slice A0_2 l0_2.length c0_2, .int .i64 a0_3]) ?_ 1 _ rfl; (with_reducible repeat (first | refine blk_drewN ?_ _ | refine blk_drew ?_ | refine blk_alloc ?_ _)); refine blk_put (cs := #[.slice A0_0 l0_0.length c0_0, .slice A0_1 l0_1.length c0_1, .slice A0_2 l0_2.length c0_2, .int .i64 a0_3]) ?_ 0 _ rfl; (with_reducible repeat (first | refine blk_drewN ?_ _ | refine blk_drew ?_ | refine blk_alloc ?_ _)); exact BK372.out) hb); have n5_ := Aside0.mk (below_step (by repeat (first | (with_reducible first | exact HB.out | apply below_alloc | apply pw_below_drewN | apply below_drew1 | refine below_set ?_ GE372.out) | exact HB.out)) hb); clear HO375; clear HO378; clear HO381; clear BK372; clear HB; have HO375 := n0_; have HO378 := n1_; have HO381 := n2_; have HO385 := n3_; have BK372 := n4_; have HB := n5_; clear n0_ n1_ n2_ n3_ n4_ n5_; (try clear hb); (try clear hb2); (try clear hk); (try clear hi); (try clear ho0); obtain ⟨Ao39, co39, eo39⟩ := Kd.R_slice HO385.out; subst eo39; have hcz40_0 : w38.cell? ⟨gb372, 0, none⟩ = some (.slice Ao34 t373.length co34) := (blk_cell BK372.out 0).trans rfl; have hcz40_1 : w38.cell? ⟨gb372, 1, none⟩ = some (.slice Ao36 t376.length co36) := (blk_cell BK372.out 1).trans rfl; have hcz40_2 : w38.cell? ⟨gb372, 2, none⟩ = some (.slice Ao37 t379.length co37) := (blk_cell BK372.out 2).trans rfl; have hcz40_3 : w38.cell? ⟨gb372, 3, none⟩ = some (.int .i64 t382) := (blk_cell BK372.out 3).trans rfl; have hfz40_0 := blk_frozen BK372.out 0; have hfz40_1 := blk_frozen BK372.out 1; have hfz40_2 := blk_frozen BK372.out 2; have hfz40_3 := blk_frozen BK372.out 3) | (go_at_call 13; (with_reducible refine (code_May.calls k _ _ t373 _ _ t376 _ _ t379 t382 true _ ?side1 ?side2 ?side3 ?side4 ?side5 ?side6 A29.out).mono ?_); (case side1 => repeat (first | exact (Kd.S_reads' HO375.out).2.2 | (with_reducible refine Kd.C_alloc ?_ _) | (with_reducible refine Kd.C_drewN ?_ _) | (with_reducible refine Kd.C_drew ?_))); (case side2 => exact (Kd.S_reads' HO375.out).2.1); (case side3 => repeat (first | exact (Kd.R_reads' HO378.out).2.2 | (with_reducible refine Kd.C_alloc ?_ _) | (with_reducible refine Kd.C_drewN ?_ _) | (with_reducible refine Kd.C_drew ?_))); (case side4 => exact (Kd.R_reads' HO378.out).2.1); (case side5 => repeat (first | exact (Kd.R_reads' HO381.out).2.2 | (with_reducible refine Kd.C_alloc ?_ _) | (with_reducible refine Kd.C_drewN ?_ _) | (with_reducible refine Kd.C_drew ?_))); (case side6 => exact (Kd.R_reads' HO381.out).2.1); rintro e w41 ⟨rfl, hb⟩; have n0_ := Aside0.mk (Kd.S_below (by (with_reducible repeat (first | apply Kd.S_alloc | apply Kd.S_drewN | apply Kd.S_drew)); exact HO375.out) hb); have n1_ := Aside0.mk (Kd.R_below (by (with_reducible repeat (first | apply Kd.R_alloc | apply Kd.R_drewN | apply Kd.R_drew)); exact HO378.out) hb); have n2_ := Aside0.mk (Kd.R_below (by (with_reducible repeat (first | apply Kd.R_alloc | apply Kd.R_drewN | apply Kd.R_drew)); exact HO381.out) hb); have n3_ := Aside0.mk (Kd.R_below (by (with_reducible repeat (first | apply Kd.R_alloc | apply Kd.R_drewN | apply Kd.R_drew)); exact HO385.out) hb); have n4_ := Aside0.mk (blk_below (g := gb372) (o := .cells #[.slice Ao34 t373.length co34, .slice Ao36 t376.length co36, .slice Ao37 t379.length co37, .int .i64 t382] 26 (0, 0)) (by (with_reducible repeat (first | refine blk_drewN ?_ _ | refine blk_drew ?_ | refine blk_alloc ?_ _)); exact BK372.out) hb); have n5_ := Aside0.mk (below_step (by repeat (first | (with_reducible first | exact HB.out | apply below_alloc | apply pw_below_drewN | apply below_drew1 | refine below_set ?_ GE372.out) | exact HB.out)) hb); clear HO375; clear HO378; clear HO381; clear HO385; clear BK372; clear HB; have HO375 := n0_; have HO378 := n1_; have HO381 := n2_; have HO385 := n3_; have BK372 := n4_; have HB := n5_; clear n0_ n1_ n2_ n3_ n4_ n5_; (try clear hb); (try clear hb2); (try clear hk); (try clear hi)))
    go_ret
    exact ⟨by first | rfl | (simp [errW_none, errW_some] <;> rfl) | (simp [*, errW_none, errW_some] <;> rfl), by repeat (first | (with_reducible first | exact HB.out | apply below_alloc | apply pw_below_drewN | apply below_drew1 | refine below_set ?_ GE372.out) | exact HB.out)⟩
   ·replace c30 := Bool.eq_false_iff.mpr c30
    subst c30
    have H1 : ((selvagelaw13_lives.f k).bind fun t388 => (some t388)) = some r := by rw [if_neg (show ¬ (false = true) by decide)] at H; exact H
    clear H
    have H := H1
    clear H1
    replace H := Option.bind_eq_some_iff.mp H
    obtain ⟨t388, A420, H⟩ := H
    replace H : (some t388) = some r := H
    have A42 := Aside0.mk A420
    clear A420
    obtain rfl := Option.some.inj H
    go_enter Try.func6, Try.ntmps6
    go_wp2_with (first | ((with_reducible refine gate_dst (N := 1) rfl ?_); refine box_event ?hg (N := 1) ?hd (cs := #[.slice A0_0 l0_0.length c0_0, .slice A0_1 l0_1.length c0_1, .slice A0_2 l0_2.length c0_2, .int .i64 a0_3]) (t := 26) ?hr ?_; (case hd => rfl); (case hg => rfl); (case hr => first | (go_simp; done) | (go_simp; rfl)); intro gb372 hg w43 hbox hb; have n0_ := Aside0.mk (below_step (by repeat (first | (with_reducible first | exact HB.out | apply below_alloc | apply pw_below_drewN | apply below_drew1) | exact HB.out)) hb); have n1_ := Aside0.mk (hbox); have n2_ := Aside0.mk ((by rw [hg]; exact (below_size (by repeat (first | (with_reducible first | exact HB.out | apply below_alloc | apply pw_below_drewN | apply below_drew1) | exact HB.out))) : w.heap.size ≤ gb372)); have n3_ := Aside0.mk ((by rw [hg]; exact (below_size (by repeat (first | (with_reducible first | exact HB.out | apply below_alloc | apply pw_below_drewN | apply below_drew1) | exact HB.out))) : w.heap.size ≤ gb372)); clear HB; have HB := n0_; have BK372 := n1_; have GW372 := n2_; have GE372 := n3_; clear n0_ n1_ n2_ n3_; clear hb hbox hg; have hcz44_0 : w43.cell? ⟨gb372, 0, none⟩ = some (.slice A0_0 l0_0.length c0_0) := (blk_cell BK372.out 0).trans rfl; have hcz44_1 : w43.cell? ⟨gb372, 1, none⟩ = some (.slice A0_1 l0_1.length c0_1) := (blk_cell BK372.out 1).trans rfl; have hcz44_2 : w43.cell? ⟨gb372, 2, none⟩ = some (.slice A0_2 l0_2.length c0_2) := (blk_cell BK372.out 2).trans rfl; have hcz44_3 : w43.cell? ⟨gb372, 3, none⟩ = some (.int .i64 a0_3) := (blk_cell BK372.out 3).trans rfl; have hfz44_0 := blk_frozen BK372.out 0; have hfz44_1 := blk_frozen BK372.out 1; have hfz44_2 := blk_frozen BK372.out 2; have hfz44_3 := blk_frozen BK372.out 3) | ((with_reducible refine gate_callee (f := 9) rfl ?_); refine goesL_ (some 9) rfl rfl Try.func9 (by kernel_rfl) rfl #[.agg #[.slice A0_0 l0_0.length c0_0, .slice A0_1 l0_1.length c0_1, .slice A0_2 l0_2.length c0_2, .int .i64 a0_3]] rfl (by (try simp only [List.map_toArray, List.map_cons, List.map_nil]); first | done | rfl | (simp only [List.length_drop, List.length_take]; rfl)) ?_; (with_reducible refine (selvageref13_Cut.calls k _ _ l0_0 _ _ l0_1 _ _ l0_2 a0_3 t373 t376 t379 t382 _ ?side1 ?side2 ?side3 ?side4 ?side5 ?side6 A2.out).mono ?_); (case side1 => repeat (first | exact (Kd.C_below HR0_0.out HB.out) | (with_reducible refine Kd.C_alloc ?_ _) | (with_reducible refine Kd.C_drewN ?_ _) | (with_reducible refine Kd.C_drew ?_))); (case side2 => exact HC0_0.out); (case side3 => repeat (first | exact (Kd.C_below HR0_1.out HB.out) | (with_reducible refine Kd.C_alloc ?_ _) | (with_reducible refine Kd.C_drewN ?_ _) | (with_reducible refine Kd.C_drew ?_))); (case side4 => exact HC0_1.out); (case side5 => repeat (first | exact (Kd.C_below HR0_2.out HB.out) | (with_reducible refine Kd.C_alloc ?_ _) | (with_reducible refine Kd.C_drewN ?_ _) | (with_reducible refine Kd.C_drew ?_))); (case side6 => exact HC0_2.out); rintro e w45 ⟨v374, v377, v380, rfl, ho0, ho1, ho2, hb⟩; refine ⟨_, rfl, ?_⟩; have n0_ := Aside0.mk (Kd.S_lower ho0 (below_size (by repeat (first | (with_reducible first | exact HB.out | apply below_alloc | apply pw_below_drewN | apply below_drew1 | refine below_set ?_ GE372.out) | exact HB.out)))); have n1_ := Aside0.mk (Kd.R_lower ho1 (below_size (by repeat (first | (with_reducible first | exact HB.out | apply below_alloc | apply pw_below_drewN | apply below_drew1 | refine below_set ?_ GE372.out) | exact HB.out)))); have n2_ := Aside0.mk (Kd.R_lower ho2 (below_size (by repeat (first | (with_reducible first | exact HB.out | apply below_alloc | apply pw_below_drewN | apply below_drew1 | refine below_set ?_ GE372.out) | exact HB.out)))); have n3_ := Aside0.mk (blk_below (g := gb372) (o := .cells #[.slice A0_0 l0_0.length c0_0, .slice A0_1 l0_1.length c0_1, .slice A0_2 l0_2.length c0_2, .int .i64 a0_3] 26 (0, 0)) (by (with_reducible repeat (first | refine blk_drewN ?_ _ | refine blk_drew ?_ | refine blk_alloc ?_ _)); exact BK372.out) hb); have n4_ := Aside0.mk (below_step (by repeat (first | (with_reducible first | exact HB.out | apply below_alloc | apply pw_below_drewN | apply below_drew1 | refine below_set ?_ GE372.out) | exact HB.out)) hb); clear BK372; clear HB; have HO375 := n0_; have HO378 := n1_; have HO381 := n2_; have BK372 := n3_; have HB := n4_; clear n0_ n1_ n2_ n3_ n4_; (try clear hb); (try clear hb2); (try clear hk); (try clear hi); (try clear ho0); (try clear ho1); (try clear ho2); obtain ⟨Ao46, co46, eo46⟩ := Kd.S_slice HO375.out; subst eo46; have hcz47_0 : w45.cell? ⟨gb372, 0, none⟩ = some (.slice A0_0 l0_0.length c0_0) := (blk_cell BK372.out 0).trans rfl; have hcz47_1 : w45.cell? ⟨gb372, 1, none⟩ = some (.slice A0_1 l0_1.length c0_1) := (blk_cell BK372.out 1).trans rfl; have hcz47_2 : w45.cell? ⟨gb372, 2, none⟩ = some (.slice A0_2 l0_2.length c0_2) := (blk_cell BK372.out 2).trans rfl; have hcz47_3 : w45.cell? ⟨gb372, 3, none⟩ = some (.int .i64 a0_3) := (blk_cell BK372.out 3).trans rfl; have hfz47_0 := blk_frozen BK372.out 0; have hfz47_1 := blk_frozen BK372.out 1; have hfz47_2 := blk_frozen BK372.out 2; have hfz47_3 := blk_frozen BK372.out 3; obtain ⟨Ao48, co48, eo48⟩ := Kd.R_slice HO378.out; subst eo48; obtain ⟨Ao49, co49, eo49⟩ := Kd.R_slice HO381.out; subst eo49) | ((with_reducible refine gate_callee (f := 10) rfl ?_); refine goesL_ (some 12) rfl rfl Try.func10 (by kernel_rfl) rfl #[.agg #[.slice Ao46 t373.length co46, .slice Ao48 t376.length co48, .slice Ao49 t379.length co49, .int .i64 t382]] rfl (by (try simp only [List.map_toArray, List.map_cons, List.map_nil]); first | done | rfl | (simp only [List.length_drop, List.length_take]; rfl)) ?_; (with_reducible refine (code_Encode.calls k _ _ t373 _ _ t376 _ _ t379 t382 t383 t386 _ ?side1 ?side2 ?side3 ?side4 ?side5 ?side6 A3.out).mono ?_); (case side1 => refine (Kd.S_reads' (e := 40) (base := w.heap.size) (ok := fun k_ => True) (n := t373.length) (c := co46) ?_).2.2; exact (by (with_reducible repeat (first | apply Kd.S_alloc | apply Kd.S_drewN | apply Kd.S_drew)); exact (Kd.S_mono (Kd.S_far (p := ⟨gb372, 3, none⟩) (Kd.S_far (p := ⟨gb372, 2, none⟩) (Kd.S_far (p := ⟨gb372, 1, none⟩) (Kd.S_far (p := ⟨gb372, 0, none⟩) (Kd.S_types HO375.out BK372.out (by decide)) (fun _ hk => hk.2) (.slice Ao46 t373.length co46)) (fun _ hk => hk.2) (.slice Ao48 t376.length co48)) (fun _ hk => hk.2) (.slice Ao49 t379.length co49)) (fun _ hk => hk.2) (.int .i64 t382)) (fun _ h_ => h_.1)))); (case side2 => exact (Kd.S_reads' HO375.out).2.1); (case side3 => refine (Kd.R_reads' (e := 3) (base := w.heap.size) (ok := fun k_ => True) (n := t376.length) (c := co48) ?_).2.2; exact (by (with_reducible repeat (first | apply Kd.R_alloc | apply Kd.R_drewN | apply Kd.R_drew)); exact (Kd.R_mono (Kd.R_far (p := ⟨gb372, 3, none⟩) (Kd.R_far (p := ⟨gb372, 2, none⟩) (Kd.R_far (p := ⟨gb372, 1, none⟩) (Kd.R_far (p := ⟨gb372, 0, none⟩) (Kd.R_types HO378.out BK372.out (by decide)) (fun _ hk => hk.2) (.slice Ao46 t373.length co46)) (fun _ hk => hk.2) (.slice Ao48 t376.length co48)) (fun _ hk => hk.2) (.slice Ao49 t379.length co49)) (fun _ hk => hk.2) (.int .i64 t382)) (fun _ h_ => h_.1)))); (case side4 => exact (Kd.R_reads' HO378.out).2.1); (case side5 => refine (Kd.R_reads' (e := 9) (base := w.heap.size) (ok := fun k_ => True) (n := t379.length) (c := co49) ?_).2.2; exact (by (with_reducible repeat (first | apply Kd.R_alloc | apply Kd.R_drewN | apply Kd.R_drew)); exact (Kd.R_mono (Kd.R_far (p := ⟨gb372, 3, none⟩) (Kd.R_far (p := ⟨gb372, 2, none⟩) (Kd.R_far (p := ⟨gb372, 1, none⟩) (Kd.R_far (p := ⟨gb372, 0, none⟩) (Kd.R_types HO381.out BK372.out (by decide)) (fun _ hk => hk.2) (.slice Ao46 t373.length co46)) (fun _ hk => hk.2) (.slice Ao48 t376.length co48)) (fun _ hk => hk.2) (.slice Ao49 t379.length co49)) (fun _ hk => hk.2) (.int .i64 t382)) (fun _ h_ => h_.1)))); (case side6 => exact (Kd.R_reads' HO381.out).2.1); rintro e w50 ⟨v384, rfl, ho0, hb⟩; refine ⟨_, rfl, ?_⟩; have n0_ := Aside0.mk (Kd.S_below (by (with_reducible repeat (first | apply Kd.S_alloc | apply Kd.S_drewN | apply Kd.S_drew)); exact (Kd.S_mono (Kd.S_far (p := ⟨gb372, 3, none⟩) (Kd.S_far (p := ⟨gb372, 2, none⟩) (Kd.S_far (p := ⟨gb372, 1, none⟩) (Kd.S_far (p := ⟨gb372, 0, none⟩) (Kd.S_types HO375.out BK372.out (by decide)) (fun _ hk => hk.2) (.slice Ao46 t373.length co46)) (fun _ hk => hk.2) (.slice Ao48 t376.length co48)) (fun _ hk => hk.2) (.slice Ao49 t379.length co49)) (fun _ hk => hk.2) (.int .i64 t382)) (fun _ h_ => h_.1))) hb); have n1_ := Aside0.mk (Kd.R_below (by (with_reducible repeat (first | apply Kd.R_alloc | apply Kd.R_drewN | apply Kd.R_drew)); exact (Kd.R_mono (Kd.R_far (p := ⟨gb372, 3, none⟩) (Kd.R_far (p := ⟨gb372, 2, none⟩) (Kd.R_far (p := ⟨gb372, 1, none⟩) (Kd.R_far (p := ⟨gb372, 0, none⟩) (Kd.R_types HO378.out BK372.out (by decide)) (fun _ hk => hk.2) (.slice Ao46 t373.length co46)) (fun _ hk => hk.2) (.slice Ao48 t376.length co48)) (fun _ hk => hk.2) (.slice Ao49 t379.length co49)) (fun _ hk => hk.2) (.int .i64 t382)) (fun _ h_ => h_.1))) hb); have n2_ := Aside0.mk (Kd.R_below (by (with_reducible repeat (first | apply Kd.R_alloc | apply Kd.R_drewN | apply Kd.R_drew)); exact (Kd.R_mono (Kd.R_far (p := ⟨gb372, 3, none⟩) (Kd.R_far (p := ⟨gb372, 2, none⟩) (Kd.R_far (p := ⟨gb372, 1, none⟩) (Kd.R_far (p := ⟨gb372, 0, none⟩) (Kd.R_types HO381.out BK372.out (by decide)) (fun _ hk => hk.2) (.slice Ao46 t373.length co46)) (fun _ hk => hk.2) (.slice Ao48 t376.length co48)) (fun _ hk => hk.2) (.slice Ao49 t379.length co49)) (fun _ hk => hk.2) (.int .i64 t382)) (fun _ h_ => h_.1))) hb); have n3_ := Aside0.mk (Kd.R_lower ho0 (below_size (by repeat (first | (with_reducible first | exact HB.out | apply below_alloc | apply pw_below_drewN | apply below_drew1 | refine below_set ?_ GE372.out) | exact HB.out)))); have n4_ := Aside0.mk (blk_below (g := gb372) (o := .cells #[.slice Ao46 t373.length co46, .slice Ao48 t376.length co48, .slice Ao49 t379.length co49, .int .i64 t382] 26 (0, 0)) (by (with_reducible repeat (first | refine blk_drewN ?_ _ | refine blk_drew ?_ | refine blk_alloc ?_ _)); refine blk_put (cs := #[.slice Ao46 t373.length co46, .slice Ao48 t376.length co48, .slice Ao49 t379.length co49, .int .i64 a0_3]) ?_ 3 _ rfl; (with_reducible repeat (first | refine blk_drewN ?_ _ | refine blk_drew ?_ | refine blk_alloc ?_ _)); refine blk_put (cs := #[.slice Ao46 t373.length co46, .slice Ao48 t376.length co48, .slice A0_2 l0_2.length c0_2, .int .i64 a0_3]) ?_ 2 _ rfl; (with_reducible repeat (first | refine blk_drewN ?_ _ | refine blk_drew ?_ | refine blk_alloc ?_ _)); refine blk_put (cs := #[.slice Ao46 t373.length co46, .slice A0_1 l0_1.length c0_1, .slice A0_2 l0_2.length c0_2, .int .i64 a0_3]) ?_ 1 _ rfl; (with_reducible repeat (first | refine blk_drewN ?_ _ | refine blk_drew ?_ | refine blk_alloc ?_ _)); refine blk_put (cs := #[.slice A0_0 l0_0.length c0_0, .slice A0_1 l0_1.length c0_1, .slice A0_2 l0_2.length c0_2, .int .i64 a0_3]) ?_ 0 _ rfl; (with_reducible repeat (first | refine blk_drewN ?_ _ | refine blk_drew ?_ | refine blk_alloc ?_ _)); exact BK372.out) hb); have n5_ := Aside0.mk (below_step (by repeat (first | (with_reducible first | exact HB.out | apply below_alloc | apply pw_below_drewN | apply below_drew1 | refine below_set ?_ GE372.out) | exact HB.out)) hb); clear HO375; clear HO378; clear HO381; clear BK372; clear HB; have HO375 := n0_; have HO378 := n1_; have HO381 := n2_; have HO385 := n3_; have BK372 := n4_; have HB := n5_; clear n0_ n1_ n2_ n3_ n4_ n5_; (try clear hb); (try clear hb2); (try clear hk); (try clear hi); (try clear ho0); obtain ⟨Ao51, co51, eo51⟩ := Kd.R_slice HO385.out; subst eo51; have hcz52_0 : w50.cell? ⟨gb372, 0, none⟩ = some (.slice Ao46 t373.length co46) := (blk_cell BK372.out 0).trans rfl; have hcz52_1 : w50.cell? ⟨gb372, 1, none⟩ = some (.slice Ao48 t376.length co48) := (blk_cell BK372.out 1).trans rfl; have hcz52_2 : w50.cell? ⟨gb372, 2, none⟩ = some (.slice Ao49 t379.length co49) := (blk_cell BK372.out 2).trans rfl; have hcz52_3 : w50.cell? ⟨gb372, 3, none⟩ = some (.int .i64 t382) := (blk_cell BK372.out 3).trans rfl; have hfz52_0 := blk_frozen BK372.out 0; have hfz52_1 := blk_frozen BK372.out 1; have hfz52_2 := blk_frozen BK372.out 2; have hfz52_3 := blk_frozen BK372.out 3) | (go_at_call 13; (with_reducible refine (code_May.calls k _ _ t373 _ _ t376 _ _ t379 t382 false _ ?side1 ?side2 ?side3 ?side4 ?side5 ?side6 A29.out).mono ?_); (case side1 => repeat (first | exact (Kd.S_reads' HO375.out).2.2 | (with_reducible refine Kd.C_alloc ?_ _) | (with_reducible refine Kd.C_drewN ?_ _) | (with_reducible refine Kd.C_drew ?_))); (case side2 => exact (Kd.S_reads' HO375.out).2.1); (case side3 => repeat (first | exact (Kd.R_reads' HO378.out).2.2 | (with_reducible refine Kd.C_alloc ?_ _) | (with_reducible refine Kd.C_drewN ?_ _) | (with_reducible refine Kd.C_drew ?_))); (case side4 => exact (Kd.R_reads' HO378.out).2.1); (case side5 => repeat (first | exact (Kd.R_reads' HO381.out).2.2 | (with_reducible refine Kd.C_alloc ?_ _) | (with_reducible refine Kd.C_drewN ?_ _) | (with_reducible refine Kd.C_drew ?_))); (case side6 => exact (Kd.R_reads' HO381.out).2.1); rintro e w53 ⟨rfl, hb⟩; have n0_ := Aside0.mk (Kd.S_below (by (with_reducible repeat (first | apply Kd.S_alloc | apply Kd.S_drewN | apply Kd.S_drew)); exact HO375.out) hb); have n1_ := Aside0.mk (Kd.R_below (by (with_reducible repeat (first | apply Kd.R_alloc | apply Kd.R_drewN | apply Kd.R_drew)); exact HO378.out) hb); have n2_ := Aside0.mk (Kd.R_below (by (with_reducible repeat (first | apply Kd.R_alloc | apply Kd.R_drewN | apply Kd.R_drew)); exact HO381.out) hb); have n3_ := Aside0.mk (Kd.R_below (by (with_reducible repeat (first | apply Kd.R_alloc | apply Kd.R_drewN | apply Kd.R_drew)); exact HO385.out) hb); have n4_ := Aside0.mk (blk_below (g := gb372) (o := .cells #[.slice Ao46 t373.length co46, .slice Ao48 t376.length co48, .slice Ao49 t379.length co49, .int .i64 t382] 26 (0, 0)) (by (with_reducible repeat (first | refine blk_drewN ?_ _ | refine blk_drew ?_ | refine blk_alloc ?_ _)); exact BK372.out) hb); have n5_ := Aside0.mk (below_step (by repeat (first | (with_reducible first | exact HB.out | apply below_alloc | apply pw_below_drewN | apply below_drew1 | refine below_set ?_ GE372.out) | exact HB.out)) hb); clear HO375; clear HO378; clear HO381; clear HO385; clear BK372; clear HB; have HO375 := n0_; have HO378 := n1_; have HO381 := n2_; have HO385 := n3_; have BK372 := n4_; have HB := n5_; clear n0_ n1_ n2_ n3_ n4_ n5_; (try clear hb); (try clear hb2); (try clear hk); (try clear hi)) | (go_at_call 15; (with_reducible refine (selvagelaw13_lives.calls k  t388 _ A42.out).mono ?_); rintro e w54 ⟨rfl, hb⟩; have n0_ := Aside0.mk (Kd.S_below (by (with_reducible repeat (first | apply Kd.S_alloc | apply Kd.S_drewN | apply Kd.S_drew)); exact HO375.out) hb); have n1_ := Aside0.mk (Kd.R_below (by (with_reducible repeat (first | apply Kd.R_alloc | apply Kd.R_drewN | apply Kd.R_drew)); exact HO378.out) hb); have n2_ := Aside0.mk (Kd.R_below (by (with_reducible repeat (first | apply Kd.R_alloc | apply Kd.R_drewN | apply Kd.R_drew)); exact HO381.out) hb); have n3_ := Aside0.mk (Kd.R_below (by (with_reducible repeat (first | apply Kd.R_alloc | apply Kd.R_drewN | apply Kd.R_drew)); exact HO385.out) hb); have n4_ := Aside0.mk (blk_below (g := gb372) (o := .cells #[.slice Ao46 t373.length co46, .slice Ao48 t376.length co48, .slice Ao49 t379.length co49, .int .i64 t382] 26 (0, 0)) (by (with_reducible repeat (first | refine blk_drewN ?_ _ | refine blk_drew ?_ | refine blk_alloc ?_ _)); exact BK372.out) hb); have n5_ := Aside0.mk (below_step (by repeat (first | (with_reducible first | exact HB.out | apply below_alloc | apply pw_below_drewN | apply below_drew1 | refine below_set ?_ GE372.out) | exact HB.out)) hb); clear HO375; clear HO378; clear HO381; clear HO385; clear BK372; clear HB; have HO375 := n0_; have HO378 := n1_; have HO381 := n2_; have HO385 := n3_; have BK372 := n4_; have HB := n5_; clear n0_ n1_ n2_ n3_ n4_ n5_; (try clear hb); (try clear hb2); (try clear hk); (try clear hi)))
    go_ret
    exact ⟨by first | rfl | (simp [errW_none, errW_some] <;> rfl) | (simp [*, errW_none, errW_some] <;> rfl), by repeat (first | (with_reducible first | exact HB.out | apply below_alloc | apply pw_below_drewN | apply below_drew1 | refine below_set ?_ GE372.out) | exact HB.out)⟩
  ·rw [if_neg c28] at H
   have c28b0 : ((t383.length : Int) == 0) = false := beq_eq_false_iff_ne.mpr c28
   have c28b1 : ((t383.length : Int) != 0) = true := bne_iff_ne.mpr c28
   have c28b2 : ¬ (t383 = []) := fun h_ => c28 (by rw [h_]; rfl)
   obtain rfl := Option.some.inj H
   go_enter Try.func6, Try.ntmps6
   go_wp2_with (first | ((with_reducible refine gate_dst (N := 1) rfl ?_); refine box_event ?hg (N := 1) ?hd (cs := #[.slice A0_0 l0_0.length c0_0, .slice A0_1 l0_1.length c0_1, .slice A0_2 l0_2.length c0_2, .int .i64 a0_3]) (t := 26) ?hr ?_; (case hd => rfl); (case hg => rfl); (case hr => first | (go_simp; done) | (go_simp; rfl)); intro gb372 hg w55 hbox hb; have n0_ := Aside0.mk (below_step (by repeat (first | (with_reducible first | exact HB.out | apply below_alloc | apply pw_below_drewN | apply below_drew1) | exact HB.out)) hb); have n1_ := Aside0.mk (hbox); have n2_ := Aside0.mk ((by rw [hg]; exact (below_size (by repeat (first | (with_reducible first | exact HB.out | apply below_alloc | apply pw_below_drewN | apply below_drew1) | exact HB.out))) : w.heap.size ≤ gb372)); have n3_ := Aside0.mk ((by rw [hg]; exact (below_size (by repeat (first | (with_reducible first | exact HB.out | apply below_alloc | apply pw_below_drewN | apply below_drew1) | exact HB.out))) : w.heap.size ≤ gb372)); clear HB; have HB := n0_; have BK372 := n1_; have GW372 := n2_; have GE372 := n3_; clear n0_ n1_ n2_ n3_; clear hb hbox hg; have hcz56_0 : w55.cell? ⟨gb372, 0, none⟩ = some (.slice A0_0 l0_0.length c0_0) := (blk_cell BK372.out 0).trans rfl; have hcz56_1 : w55.cell? ⟨gb372, 1, none⟩ = some (.slice A0_1 l0_1.length c0_1) := (blk_cell BK372.out 1).trans rfl; have hcz56_2 : w55.cell? ⟨gb372, 2, none⟩ = some (.slice A0_2 l0_2.length c0_2) := (blk_cell BK372.out 2).trans rfl; have hcz56_3 : w55.cell? ⟨gb372, 3, none⟩ = some (.int .i64 a0_3) := (blk_cell BK372.out 3).trans rfl; have hfz56_0 := blk_frozen BK372.out 0; have hfz56_1 := blk_frozen BK372.out 1; have hfz56_2 := blk_frozen BK372.out 2; have hfz56_3 := blk_frozen BK372.out 3) | ((with_reducible refine gate_callee (f := 9) rfl ?_); refine goesL_ (some 9) rfl rfl Try.func9 (by kernel_rfl) rfl #[.agg #[.slice A0_0 l0_0.length c0_0, .slice A0_1 l0_1.length c0_1, .slice A0_2 l0_2.length c0_2, .int .i64 a0_3]] rfl (by (try simp only [List.map_toArray, List.map_cons, List.map_nil]); first | done | rfl | (simp only [List.length_drop, List.length_take]; rfl)) ?_; (with_reducible refine (selvageref13_Cut.calls k _ _ l0_0 _ _ l0_1 _ _ l0_2 a0_3 t373 t376 t379 t382 _ ?side1 ?side2 ?side3 ?side4 ?side5 ?side6 A2.out).mono ?_); (case side1 => repeat (first | exact (Kd.C_below HR0_0.out HB.out) | (with_reducible refine Kd.C_alloc ?_ _) | (with_reducible refine Kd.C_drewN ?_ _) | (with_reducible refine Kd.C_drew ?_))); (case side2 => exact HC0_0.out); (case side3 => repeat (first | exact (Kd.C_below HR0_1.out HB.out) | (with_reducible refine Kd.C_alloc ?_ _) | (with_reducible refine Kd.C_drewN ?_ _) | (with_reducible refine Kd.C_drew ?_))); (case side4 => exact HC0_1.out); (case side5 => repeat (first | exact (Kd.C_below HR0_2.out HB.out) | (with_reducible refine Kd.C_alloc ?_ _) | (with_reducible refine Kd.C_drewN ?_ _) | (with_reducible refine Kd.C_drew ?_))); (case side6 => exact HC0_2.out); rintro e w57 ⟨v374, v377, v380, rfl, ho0, ho1, ho2, hb⟩; refine ⟨_, rfl, ?_⟩; have n0_ := Aside0.mk (Kd.S_lower ho0 (below_size (by repeat (first | (with_reducible first | exact HB.out | apply below_alloc | apply pw_below_drewN | apply below_drew1 | refine below_set ?_ GE372.out) | exact HB.out)))); have n1_ := Aside0.mk (Kd.R_lower ho1 (below_size (by repeat (first | (with_reducible first | exact HB.out | apply below_alloc | apply pw_below_drewN | apply below_drew1 | refine below_set ?_ GE372.out) | exact HB.out)))); have n2_ := Aside0.mk (Kd.R_lower ho2 (below_size (by repeat (first | (with_reducible first | exact HB.out | apply below_alloc | apply pw_below_drewN | apply below_drew1 | refine below_set ?_ GE372.out) | exact HB.out)))); have n3_ := Aside0.mk (blk_below (g := gb372) (o := .cells #[.slice A0_0 l0_0.length c0_0, .slice A0_1 l0_1.length c0_1, .slice A0_2 l0_2.length c0_2, .int .i64 a0_3] 26 (0, 0)) (by (with_reducible repeat (first | refine blk_drewN ?_ _ | refine blk_drew ?_ | refine blk_alloc ?_ _)); exact BK372.out) hb); have n4_ := Aside0.mk (below_step (by repeat (first | (with_reducible first | exact HB.out | apply below_alloc | apply pw_below_drewN | apply below_drew1 | refine below_set ?_ GE372.out) | exact HB.out)) hb); clear BK372; clear HB; have HO375 := n0_; have HO378 := n1_; have HO381 := n2_; have BK372 := n3_; have HB := n4_; clear n0_ n1_ n2_ n3_ n4_; (try clear hb); (try clear hb2); (try clear hk); (try clear hi); (try clear ho0); (try clear ho1); (try clear ho2); obtain ⟨Ao58, co58, eo58⟩ := Kd.S_slice HO375.out; subst eo58; have hcz59_0 : w57.cell? ⟨gb372, 0, none⟩ = some (.slice A0_0 l0_0.length c0_0) := (blk_cell BK372.out 0).trans rfl; have hcz59_1 : w57.cell? ⟨gb372, 1, none⟩ = some (.slice A0_1 l0_1.length c0_1) := (blk_cell BK372.out 1).trans rfl; have hcz59_2 : w57.cell? ⟨gb372, 2, none⟩ = some (.slice A0_2 l0_2.length c0_2) := (blk_cell BK372.out 2).trans rfl; have hcz59_3 : w57.cell? ⟨gb372, 3, none⟩ = some (.int .i64 a0_3) := (blk_cell BK372.out 3).trans rfl; have hfz59_0 := blk_frozen BK372.out 0; have hfz59_1 := blk_frozen BK372.out 1; have hfz59_2 := blk_frozen BK372.out 2; have hfz59_3 := blk_frozen BK372.out 3; obtain ⟨Ao60, co60, eo60⟩ := Kd.R_slice HO378.out; subst eo60; obtain ⟨Ao61, co61, eo61⟩ := Kd.R_slice HO381.out; subst eo61) | ((with_reducible refine gate_callee (f := 10) rfl ?_); refine goesL_ (some 12) rfl rfl Try.func10 (by kernel_rfl) rfl #[.agg #[.slice Ao58 t373.length co58, .slice Ao60 t376.length co60, .slice Ao61 t379.length co61, .int .i64 t382]] rfl (by (try simp only [List.map_toArray, List.map_cons, List.map_nil]); first | done | rfl | (simp only [List.length_drop, List.length_take]; rfl)) ?_; (with_reducible refine (code_Encode.calls k _ _ t373 _ _ t376 _ _ t379 t382 t383 t386 _ ?side1 ?side2 ?side3 ?side4 ?side5 ?side6 A3.out).mono ?_); (case side1 => refine (Kd.S_reads' (e := 40) (base := w.heap.size) (ok := fun k_ => True) (n := t373.length) (c := co58) ?_).2.2; exact (by (with_reducible repeat (first | apply Kd.S_alloc | apply Kd.S_drewN | apply Kd.S_drew)); exact (Kd.S_mono (Kd.S_far (p := ⟨gb372, 3, none⟩) (Kd.S_far (p := ⟨gb372, 2, none⟩) (Kd.S_far (p := ⟨gb372, 1, none⟩) (Kd.S_far (p := ⟨gb372, 0, none⟩) (Kd.S_types HO375.out BK372.out (by decide)) (fun _ hk => hk.2) (.slice Ao58 t373.length co58)) (fun _ hk => hk.2) (.slice Ao60 t376.length co60)) (fun _ hk => hk.2) (.slice Ao61 t379.length co61)) (fun _ hk => hk.2) (.int .i64 t382)) (fun _ h_ => h_.1)))); (case side2 => exact (Kd.S_reads' HO375.out).2.1); (case side3 => refine (Kd.R_reads' (e := 3) (base := w.heap.size) (ok := fun k_ => True) (n := t376.length) (c := co60) ?_).2.2; exact (by (with_reducible repeat (first | apply Kd.R_alloc | apply Kd.R_drewN | apply Kd.R_drew)); exact (Kd.R_mono (Kd.R_far (p := ⟨gb372, 3, none⟩) (Kd.R_far (p := ⟨gb372, 2, none⟩) (Kd.R_far (p := ⟨gb372, 1, none⟩) (Kd.R_far (p := ⟨gb372, 0, none⟩) (Kd.R_types HO378.out BK372.out (by decide)) (fun _ hk => hk.2) (.slice Ao58 t373.length co58)) (fun _ hk => hk.2) (.slice Ao60 t376.length co60)) (fun _ hk => hk.2) (.slice Ao61 t379.length co61)) (fun _ hk => hk.2) (.int .i64 t382)) (fun _ h_ => h_.1)))); (case side4 => exact (Kd.R_reads' HO378.out).2.1); (case side5 => refine (Kd.R_reads' (e := 9) (base := w.heap.size) (ok := fun k_ => True) (n := t379.length) (c := co61) ?_).2.2; exact (by (with_reducible repeat (first | apply Kd.R_alloc | apply Kd.R_drewN | apply Kd.R_drew)); exact (Kd.R_mono (Kd.R_far (p := ⟨gb372, 3, none⟩) (Kd.R_far (p := ⟨gb372, 2, none⟩) (Kd.R_far (p := ⟨gb372, 1, none⟩) (Kd.R_far (p := ⟨gb372, 0, none⟩) (Kd.R_types HO381.out BK372.out (by decide)) (fun _ hk => hk.2) (.slice Ao58 t373.length co58)) (fun _ hk => hk.2) (.slice Ao60 t376.length co60)) (fun _ hk => hk.2) (.slice Ao61 t379.length co61)) (fun _ hk => hk.2) (.int .i64 t382)) (fun _ h_ => h_.1)))); (case side6 => exact (Kd.R_reads' HO381.out).2.1); rintro e w62 ⟨v384, rfl, ho0, hb⟩; refine ⟨_, rfl, ?_⟩; have n0_ := Aside0.mk (Kd.S_below (by (with_reducible repeat (first | apply Kd.S_alloc | apply Kd.S_drewN | apply Kd.S_drew)); exact (Kd.S_mono (Kd.S_far (p := ⟨gb372, 3, none⟩) (Kd.S_far (p := ⟨gb372, 2, none⟩) (Kd.S_far (p := ⟨gb372, 1, none⟩) (Kd.S_far (p := ⟨gb372, 0, none⟩) (Kd.S_types HO375.out BK372.out (by decide)) (fun _ hk => hk.2) (.slice Ao58 t373.length co58)) (fun _ hk => hk.2) (.slice Ao60 t376.length co60)) (fun _ hk => hk.2) (.slice Ao61 t379.length co61)) (fun _ hk => hk.2) (.int .i64 t382)) (fun _ h_ => h_.1))) hb); have n1_ := Aside0.mk (Kd.R_below (by (with_reducible repeat (first | apply Kd.R_alloc | apply Kd.R_drewN | apply Kd.R_drew)); exact (Kd.R_mono (Kd.R_far (p := ⟨gb372, 3, none⟩) (Kd.R_far (p := ⟨gb372, 2, none⟩) (Kd.R_far (p := ⟨gb372, 1, none⟩) (Kd.R_far (p := ⟨gb372, 0, none⟩) (Kd.R_types HO378.out BK372.out (by decide)) (fun _ hk => hk.2) (.slice Ao58 t373.length co58)) (fun _ hk => hk.2) (.slice Ao60 t376.length co60)) (fun _ hk => hk.2) (.slice Ao61 t379.length co61)) (fun _ hk => hk.2) (.int .i64 t382)) (fun _ h_ => h_.1))) hb); have n2_ := Aside0.mk (Kd.R_below (by (with_reducible repeat (first | apply Kd.R_alloc | apply Kd.R_drewN | apply Kd.R_drew)); exact (Kd.R_mono (Kd.R_far (p := ⟨gb372, 3, none⟩) (Kd.R_far (p := ⟨gb372, 2, none⟩) (Kd.R_far (p := ⟨gb372, 1, none⟩) (Kd.R_far (p := ⟨gb372, 0, none⟩) (Kd.R_types HO381.out BK372.out (by decide)) (fun _ hk => hk.2) (.slice Ao58 t373.length co58)) (fun _ hk => hk.2) (.slice Ao60 t376.length co60)) (fun _ hk => hk.2) (.slice Ao61 t379.length co61)) (fun _ hk => hk.2) (.int .i64 t382)) (fun _ h_ => h_.1))) hb); have n3_ := Aside0.mk (Kd.R_lower ho0 (below_size (by repeat (first | (with_reducible first | exact HB.out | apply below_alloc | apply pw_below_drewN | apply below_drew1 | refine below_set ?_ GE372.out) | exact HB.out)))); have n4_ := Aside0.mk (blk_below (g := gb372) (o := .cells #[.slice Ao58 t373.length co58, .slice Ao60 t376.length co60, .slice Ao61 t379.length co61, .int .i64 t382] 26 (0, 0)) (by (with_reducible repeat (first | refine blk_drewN ?_ _ | refine blk_drew ?_ | refine blk_alloc ?_ _)); refine blk_put (cs := #[.slice Ao58 t373.length co58, .slice Ao60 t376.length co60, .slice Ao61 t379.length co61, .int .i64 a0_3]) ?_ 3 _ rfl; (with_reducible repeat (first | refine blk_drewN ?_ _ | refine blk_drew ?_ | refine blk_alloc ?_ _)); refine blk_put (cs := #[.slice Ao58 t373.length co58, .slice Ao60 t376.length co60, .slice A0_2 l0_2.length c0_2, .int .i64 a0_3]) ?_ 2 _ rfl; (with_reducible repeat (first | refine blk_drewN ?_ _ | refine blk_drew ?_ | refine blk_alloc ?_ _)); refine blk_put (cs := #[.slice Ao58 t373.length co58, .slice A0_1 l0_1.length c0_1, .slice A0_2 l0_2.length c0_2, .int .i64 a0_3]) ?_ 1 _ rfl; (with_reducible repeat (first | refine blk_drewN ?_ _ | refine blk_drew ?_ | refine blk_alloc ?_ _)); refine blk_put (cs := #[.slice A0_0 l0_0.length c0_0, .slice A0_1 l0_1.length c0_1, .slice A0_2 l0_2.length c0_2, .int .i64 a0_3]) ?_ 0 _ rfl; (with_reducible repeat (first | refine blk_drewN ?_ _ | refine blk_drew ?_ | refine blk_alloc ?_ _)); exact BK372.out) hb); have n5_ := Aside0.mk (below_step (by repeat (first | (with_reducible first | exact HB.out | apply below_alloc | apply pw_below_drewN | apply below_drew1 | refine below_set ?_ GE372.out) | exact HB.out)) hb); clear HO375; clear HO378; clear HO381; clear BK372; clear HB; have HO375 := n0_; have HO378 := n1_; have HO381 := n2_; have HO385 := n3_; have BK372 := n4_; have HB := n5_; clear n0_ n1_ n2_ n3_ n4_ n5_; (try clear hb); (try clear hb2); (try clear hk); (try clear hi); (try clear ho0); obtain ⟨Ao63, co63, eo63⟩ := Kd.R_slice HO385.out; subst eo63))
   go_ret
   exact ⟨by first | rfl | (simp [errW_none, errW_some] <;> rfl) | (simp [*, errW_none, errW_some] <;> rfl), by repeat (first | (with_reducible first | exact HB.out | apply below_alloc | apply pw_below_drewN | apply below_drew1 | refine below_set ?_ GE372.out) | exact HB.out)⟩

end Go.Proofs.Ytadbiogchgglpaa.Q
