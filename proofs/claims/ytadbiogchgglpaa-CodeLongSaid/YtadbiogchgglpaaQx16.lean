-- PRINTED by print.py (a twelfth state) out of the translation. Not trusted: Lean checks it.
import Derived.Test.YtadbiogchgglpaaQx0
import Derived.Test.YtadbiogchgglpaaQx14
import Derived.Test.YtadbiogchgglpaaQx15
namespace Go.Proofs.Ytadbiogchgglpaa.Q
open Go.RowKit Go.Proofs.YtadbiogchgglpaaW.PrintWords Go.Proofs.YtadbiogchgglpaaW.PrintLast Go.Proofs.YtadbiogchgglpaaW.PrintMore
attribute [local go_sem] max2_int min2_int max_two min_two max_three min_three max_four min_four   -- for this text's walks alone
set_option linter.unusedVariables false
set_option linter.unusedSimpArgs false

/-! ### selvageref13_Encode: function 11 -/
mutual
def selvageref13_Encode.l0 : Nat → List Int → Int → List (S40) → List Int → List ByteArray → Int → Option (List Int × Int)
 | 0, _, _, _, _, _, _ => none
 | k + 1, x5, x6, x256000, x256001, x256002, x256003 => if x6 < (x256001.length : Int) then (if 0 ≤ x6 then ((selvageref13_eight.f k x5 (rd x256001 x6)).bind fun t261 => (selvageref13_Encode.l0 k t261 (wrap64 (x6 + 1)) x256000 x256001 x256002 x256003)) else (none)) else (if x5.length < 140737488355328 then (selvageref13_Encode.l1 k (x5 ++ [((x256002.length : Int)) % 256]) 0 x256000 x256001 x256002 x256003) else (none))
def selvageref13_Encode.l1 : Nat → List Int → Int → List (S40) → List Int → List ByteArray → Int → Option (List Int × Int)
 | 0, _, _, _, _, _, _ => none
 | k + 1, x5, x7, x256000, x256001, x256002, x256003 => if x7 < (x256002.length : Int) then (if 0 ≤ x7 then (if x5.length < 140737488355328 then ((some (x5 ++ [(((rdOf ByteArray.empty x256002 x7).size : Int)) % 256] : List Int)).bind fun y268 => (if y268.length + (rdOf ByteArray.empty x256002 x7).size < 140737488355328 then (selvageref13_Encode.l1 k (y268 ++ bytesOf (rdOf ByteArray.empty x256002 x7)) (wrap64 (x7 + 1)) x256000 x256001 x256002 x256003) else (none))) else (none)) else (none)) else (if x5.length < 140737488355328 then (selvageref13_Encode.l2 k (x5 ++ [((x256000.length : Int)) % 256]) 0 x256000 x256001 x256002 x256003) else (none))
def selvageref13_Encode.l2 : Nat → List Int → Int → List (S40) → List Int → List ByteArray → Int → Option (List Int × Int)
 | 0, _, _, _, _, _, _ => none
 | k + 1, x5, x8, x256000, x256001, x256002, x256003 => if x8 < (x256000.length : Int) then (if 0 ≤ x8 then ((some (([((rd_T40 x256000 x8).f0) % 256, ((rd_T40 x256000 x8).f1) % 256, ((rd_T40 x256000 x8).f2) % 256] : List Int) : List Int)).bind fun y280 => (if x5.length + y280.length < 140737488355328 then ((selvageref13_two.f (x5 ++ y280) (((rd_T40 x256000 x8).f3).length : Int)).bind fun t286 => (selvageref13_Encode.l3 k t286 x8 0 x256000 x256001 x256002 x256003 ((rd_T40 x256000 x8).f0) ((rd_T40 x256000 x8).f1) ((rd_T40 x256000 x8).f2) ((rd_T40 x256000 x8).f3))) else (none))) else (none)) else (some (x5, 0))
def selvageref13_Encode.l3 : Nat → List Int → Int → Int → List (S40) → List Int → List ByteArray → Int → Int → Int → Int → List (S42) → Option (List Int × Int)
 | 0, _, _, _, _, _, _, _, _, _, _, _ => none
 | k + 1, x5, x8, x10, x256000, x256001, x256002, x256003, x280000, x280001, x280002, x280003 => if x10 < (x280003.length : Int) then (if 0 ≤ x10 then (if x5.length < 140737488355328 then ((selvageref13_two.f (x5 ++ [((rd_T42 x280003 x10).f0) % 256]) ((rd_T42 x280003 x10).f1)).bind fun t294 => ((selvageref13_two.f t294 ((rd_T42 x280003 x10).f2)).bind fun t298 => (selvageref13_Encode.l3 k t298 x8 (wrap64 (x10 + 1)) x256000 x256001 x256002 x256003 x280000 x280001 x280002 x280003))) else (none)) else (none)) else (selvageref13_Encode.l2 k x5 (wrap64 (x8 + 1)) x256000 x256001 x256002 x256003)
end
def selvageref13_Encode.f (k : Nat) (l0_0 : List (S40)) (l0_1 : List Int) (l0_2 : List ByteArray) (a0_3 : Int) : Option (List Int × Int) := (selvageref13_May.f k l0_0 l0_1 l0_2 a0_3).bind fun t256 => (if t256 = true then (selvageref13_Encode.l0 k (([83, 77, 49, (a0_3) % 256, ((l0_1.length : Int)) % 256] : List Int)) 0 l0_0 l0_1 l0_2 a0_3) else (some (([] : List Int), 1)))
theorem selvageref13_Encode.mono_l : ∀ k, (∀ y0 y1 y2 y3 y4 y5, LeO (selvageref13_Encode.l0 k y0 y1 y2 y3 y4 y5) (selvageref13_Encode.l0 (k + 1) y0 y1 y2 y3 y4 y5)) ∧ (∀ y0 y1 y2 y3 y4 y5, LeO (selvageref13_Encode.l1 k y0 y1 y2 y3 y4 y5) (selvageref13_Encode.l1 (k + 1) y0 y1 y2 y3 y4 y5)) ∧ (∀ y0 y1 y2 y3 y4 y5, LeO (selvageref13_Encode.l2 k y0 y1 y2 y3 y4 y5) (selvageref13_Encode.l2 (k + 1) y0 y1 y2 y3 y4 y5)) ∧ (∀ y0 y1 y2 y3 y4 y5 y6 y7 y8 y9 y10, LeO (selvageref13_Encode.l3 k y0 y1 y2 y3 y4 y5 y6 y7 y8 y9 y10) (selvageref13_Encode.l3 (k + 1) y0 y1 y2 y3 y4 y5 y6 y7 y8 y9 y10))
 | 0 => ⟨fun _ _ _ _ _ _ r h => by simp [selvageref13_Encode.l0] at h, fun _ _ _ _ _ _ r h => by simp [selvageref13_Encode.l1] at h, fun _ _ _ _ _ _ r h => by simp [selvageref13_Encode.l2] at h, fun _ _ _ _ _ _ _ _ _ _ _ r h => by simp [selvageref13_Encode.l3] at h⟩
 | k + 1 => by
  obtain ⟨ih0, ih1, ih2, ih3⟩ := selvageref13_Encode.mono_l k
  refine ⟨?_, ?_, ?_, ?_⟩
  ·intro y0 y1 y2 y3 y4 y5
   unfold selvageref13_Encode.l0
   repeat' first
   | (with_reducible exact ih0 _ _ _ _ _ _)
   | (with_reducible exact ih1 _ _ _ _ _ _)
   | (with_reducible exact ih2 _ _ _ _ _ _)
   | (with_reducible exact ih3 _ _ _ _ _ _ _ _ _ _ _)
   | (with_reducible exact selvageref13_May.mono _ _ _ _ _)
   | (with_reducible exact selvageref13_eight.mono _ _ _)
   | (with_reducible exact LeO.refl _)
   | (with_reducible exact LeO.none _)
   | (with_reducible refine LeO.ite ?_ ?_)
   | (with_reducible refine LeO.bind ?_ (fun _ => ?_))
   | exact ih0 _ _ _ _ _ _
   | exact ih1 _ _ _ _ _ _
   | exact ih2 _ _ _ _ _ _
   | exact ih3 _ _ _ _ _ _ _ _ _ _ _
   | exact selvageref13_May.mono _ _ _ _ _
   | exact selvageref13_eight.mono _ _ _
   | exact LeO.none _
   | refine LeO.ite ?_ ?_
   | refine LeO.bind ?_ (fun _ => ?_)
  ·intro y0 y1 y2 y3 y4 y5
   unfold selvageref13_Encode.l1
   repeat' first
   | (with_reducible exact ih0 _ _ _ _ _ _)
   | (with_reducible exact ih1 _ _ _ _ _ _)
   | (with_reducible exact ih2 _ _ _ _ _ _)
   | (with_reducible exact ih3 _ _ _ _ _ _ _ _ _ _ _)
   | (with_reducible exact selvageref13_May.mono _ _ _ _ _)
   | (with_reducible exact selvageref13_eight.mono _ _ _)
   | (with_reducible exact LeO.refl _)
   | (with_reducible exact LeO.none _)
   | (with_reducible refine LeO.ite ?_ ?_)
   | (with_reducible refine LeO.bind ?_ (fun _ => ?_))
   | exact ih0 _ _ _ _ _ _
   | exact ih1 _ _ _ _ _ _
   | exact ih2 _ _ _ _ _ _
   | exact ih3 _ _ _ _ _ _ _ _ _ _ _
   | exact selvageref13_May.mono _ _ _ _ _
   | exact selvageref13_eight.mono _ _ _
   | exact LeO.none _
   | refine LeO.ite ?_ ?_
   | refine LeO.bind ?_ (fun _ => ?_)
  ·intro y0 y1 y2 y3 y4 y5
   unfold selvageref13_Encode.l2
   repeat' first
   | (with_reducible exact ih0 _ _ _ _ _ _)
   | (with_reducible exact ih1 _ _ _ _ _ _)
   | (with_reducible exact ih2 _ _ _ _ _ _)
   | (with_reducible exact ih3 _ _ _ _ _ _ _ _ _ _ _)
   | (with_reducible exact selvageref13_May.mono _ _ _ _ _)
   | (with_reducible exact selvageref13_eight.mono _ _ _)
   | (with_reducible exact LeO.refl _)
   | (with_reducible exact LeO.none _)
   | (with_reducible refine LeO.ite ?_ ?_)
   | (with_reducible refine LeO.bind ?_ (fun _ => ?_))
   | exact ih0 _ _ _ _ _ _
   | exact ih1 _ _ _ _ _ _
   | exact ih2 _ _ _ _ _ _
   | exact ih3 _ _ _ _ _ _ _ _ _ _ _
   | exact selvageref13_May.mono _ _ _ _ _
   | exact selvageref13_eight.mono _ _ _
   | exact LeO.none _
   | refine LeO.ite ?_ ?_
   | refine LeO.bind ?_ (fun _ => ?_)
  ·intro y0 y1 y2 y3 y4 y5 y6 y7 y8 y9 y10
   unfold selvageref13_Encode.l3
   repeat' first
   | (with_reducible exact ih0 _ _ _ _ _ _)
   | (with_reducible exact ih1 _ _ _ _ _ _)
   | (with_reducible exact ih2 _ _ _ _ _ _)
   | (with_reducible exact ih3 _ _ _ _ _ _ _ _ _ _ _)
   | (with_reducible exact selvageref13_May.mono _ _ _ _ _)
   | (with_reducible exact selvageref13_eight.mono _ _ _)
   | (with_reducible exact LeO.refl _)
   | (with_reducible exact LeO.none _)
   | (with_reducible refine LeO.ite ?_ ?_)
   | (with_reducible refine LeO.bind ?_ (fun _ => ?_))
   | exact ih0 _ _ _ _ _ _
   | exact ih1 _ _ _ _ _ _
   | exact ih2 _ _ _ _ _ _
   | exact ih3 _ _ _ _ _ _ _ _ _ _ _
   | exact selvageref13_May.mono _ _ _ _ _
   | exact selvageref13_eight.mono _ _ _
   | exact LeO.none _
   | refine LeO.ite ?_ ?_
   | refine LeO.bind ?_ (fun _ => ?_)
theorem selvageref13_Encode.mono : ∀ a0 a1 a2 a3 k, LeO (selvageref13_Encode.f k a0 a1 a2 a3) (selvageref13_Encode.f (k + 1) a0 a1 a2 a3) := by
 intro a0 a1 a2 a3 k
 obtain ⟨ih0, ih1, ih2, ih3⟩ := selvageref13_Encode.mono_l k
 unfold selvageref13_Encode.f
 repeat' first
   | (with_reducible exact ih0 _ _ _ _ _ _)
   | (with_reducible exact ih1 _ _ _ _ _ _)
   | (with_reducible exact ih2 _ _ _ _ _ _)
   | (with_reducible exact ih3 _ _ _ _ _ _ _ _ _ _ _)
   | (with_reducible exact selvageref13_May.mono _ _ _ _ _)
   | (with_reducible exact selvageref13_eight.mono _ _ _)
   | (with_reducible exact LeO.refl _)
   | (with_reducible exact LeO.none _)
   | (with_reducible refine LeO.ite ?_ ?_)
   | (with_reducible refine LeO.bind ?_ (fun _ => ?_))
   | exact ih0 _ _ _ _ _ _
   | exact ih1 _ _ _ _ _ _
   | exact ih2 _ _ _ _ _ _
   | exact ih3 _ _ _ _ _ _ _ _ _ _ _
   | exact selvageref13_May.mono _ _ _ _ _
   | exact selvageref13_eight.mono _ _ _
   | exact LeO.none _
   | refine LeO.ite ?_ ?_
   | refine LeO.bind ?_ (fun _ => ?_)
set_option maxHeartbeats 8000000 in
set_option maxRecDepth 100000 in
theorem selvageref13_Encode.calls (k : Nat) (A0_0 : Option Addr) (c0_0 : Nat) (l0_0 : List (S40)) (A0_1 : Option Addr) (c0_1 : Nat) (l0_1 : List Int) (A0_2 : Option Addr) (c0_2 : Nat) (l0_2 : List ByteArray) (a0_3 : Int) (r1 : List Int) (r2 : Int) (w : World) (hr0_0 : Kd.C k40 w A0_0 l0_0.length l0_0) (hc0_0 : l0_0.length ≤ c0_0) (hr0_1 : Kd.C (Kd.int .i64) w A0_1 l0_1.length l0_1) (hc0_1 : l0_1.length ≤ c0_1) (hr0_2 : Kd.C Kd.string w A0_2 l0_2.length l0_2) (hc0_2 : l0_2.length ≤ c0_2) (h : selvageref13_Encode.f k l0_0 l0_1 l0_2 a0_3 = some (r1, r2)) :
  Calls Try.prog 11 #[.agg #[.slice A0_0 l0_0.length c0_0, .slice A0_1 l0_1.length c0_1, .slice A0_2 l0_2.length c0_2, .int .i64 a0_3]] w fun e w' => ∃ v0_ : Value, e = .returned (.tuple #[v0_, .int .i64 r2]) ∧ Kd.R (Kd.int .u8) 5 w' w.heap.size (fun _ => True) v0_ r1 ∧ Below w.heap.size w w' := by
 have hu26 := Try.underlying26
 have hu40 := Try.underlying40
 have HR0_0 := Aside0.mk hr0_0
 have HC0_0 := Aside0.mk hc0_0
 clear hr0_0 hc0_0
 have HR0_1 := Aside0.mk hr0_1
 have HC0_1 := Aside0.mk hc0_1
 clear hr0_1 hc0_1
 have HR0_2 := Aside0.mk hr0_2
 have HC0_2 := Aside0.mk hc0_2
 clear hr0_2 hc0_2
 have HB := Aside0.mk (Below.refl w.heap.size w)
 have H : ((selvageref13_May.f k l0_0 l0_1 l0_2 a0_3).bind fun t256 => (if t256 = true then (selvageref13_Encode.l0 k (([83, 77, 49, (a0_3) % 256, ((l0_1.length : Int)) % 256] : List Int)) 0 l0_0 l0_1 l0_2 a0_3) else (some (([] : List Int), 1)))) = some (r1, r2) := h
 clear h
 replace H := Option.bind_eq_some_iff.mp H
 obtain ⟨t256, A20, H⟩ := H
 replace H : (if t256 = true then (selvageref13_Encode.l0 k (([83, 77, 49, (a0_3) % 256, ((l0_1.length : Int)) % 256] : List Int)) 0 l0_0 l0_1 l0_2 a0_3) else (some (([] : List Int), 1))) = some (r1, r2) := H
 have A2 := Aside0.mk A20
 clear A20
 by_cases c3 : t256 = true
 ·subst c3
  have H1 : (selvageref13_Encode.l0 k (([83, 77, 49, (a0_3) % 256, ((l0_1.length : Int)) % 256] : List Int)) 0 l0_0 l0_1 l0_2 a0_3) = some (r1, r2) := by rw [if_pos rfl] at H; exact H
  clear H
  have H := H1
  clear H1
  obtain ⟨y257, hy257⟩ : ∃ y_ : List Int, y_ = (([83, 77, 49, (a0_3) % 256, ((l0_1.length : Int)) % 256] : List Int)) := ⟨_, rfl⟩
  replace H : (selvageref13_Encode.l0 k y257 0 l0_0 l0_1 l0_2 a0_3) = some (r1, r2) := by first | (rw [hy257]; with_reducible exact H) | (have H2_ := (Option.bind_some _ _).symm.trans H; rw [hy257]; with_reducible exact H2_) | (have H2_ := (Option.bind_some _ _).symm.trans H; with_reducible exact H2_) | with_reducible exact H | (rw [hy257]; exact H) | exact H
  have Ny257 := Aside0.mk hy257
  clear hy257
  have H' := Aside0.mk H
  clear H
  go_enter Try.func11, Try.ntmps11
  go_wp2_with (first | ((with_reducible refine gate_dst (N := 1) rfl ?_); refine box_event ?hg (N := 1) ?hd (cs := #[.slice A0_0 l0_0.length c0_0, .slice A0_1 l0_1.length c0_1, .slice A0_2 l0_2.length c0_2, .int .i64 a0_3]) (t := 26) ?hr ?_; (case hd => rfl); (case hg => rfl); (case hr => first | (go_simp; done) | (go_simp; rfl)); intro gb255 hg w4 hbox hb; have n0_ := Aside0.mk (below_step (by repeat (first | (with_reducible first | exact HB.out | apply below_alloc | apply pw_below_drewN | apply below_drew1) | exact HB.out)) hb); have n1_ := Aside0.mk (hbox); have n2_ := Aside0.mk ((by rw [hg]; exact (below_size (by repeat (first | (with_reducible first | exact HB.out | apply below_alloc | apply pw_below_drewN | apply below_drew1) | exact HB.out))) : w.heap.size ≤ gb255)); have n3_ := Aside0.mk ((by rw [hg]; exact (below_size (by repeat (first | (with_reducible first | exact HB.out | apply below_alloc | apply pw_below_drewN | apply below_drew1) | exact HB.out))) : w.heap.size ≤ gb255)); clear HB; have HB := n0_; have BK255 := n1_; have GW255 := n2_; have GE255 := n3_; clear n0_ n1_ n2_ n3_; clear hb hbox hg; have hcz5_0 : w4.cell? ⟨gb255, 0, none⟩ = some (.slice A0_0 l0_0.length c0_0) := (blk_cell BK255.out 0).trans rfl; have hcz5_1 : w4.cell? ⟨gb255, 1, none⟩ = some (.slice A0_1 l0_1.length c0_1) := (blk_cell BK255.out 1).trans rfl; have hcz5_2 : w4.cell? ⟨gb255, 2, none⟩ = some (.slice A0_2 l0_2.length c0_2) := (blk_cell BK255.out 2).trans rfl; have hcz5_3 : w4.cell? ⟨gb255, 3, none⟩ = some (.int .i64 a0_3) := (blk_cell BK255.out 3).trans rfl; have hfz5_0 := blk_frozen BK255.out 0; have hfz5_1 := blk_frozen BK255.out 1; have hfz5_2 := blk_frozen BK255.out 2; have hfz5_3 := blk_frozen BK255.out 3) | ((with_reducible refine gate_callee (f := 14) rfl ?_); refine goesL_ (some 12) rfl rfl Try.func14 (by kernel_rfl) rfl #[.agg #[.slice A0_0 l0_0.length c0_0, .slice A0_1 l0_1.length c0_1, .slice A0_2 l0_2.length c0_2, .int .i64 a0_3]] rfl (by (try simp only [List.map_toArray, List.map_cons, List.map_nil]); first | done | rfl | (simp only [List.length_drop, List.length_take]; rfl)) ?_; (with_reducible refine (selvageref13_May.calls k _ _ l0_0 _ _ l0_1 _ _ l0_2 a0_3 true _ ?side1 ?side2 ?side3 ?side4 ?side5 ?side6 A2.out).mono ?_); (case side1 => repeat (first | exact (Kd.C_below HR0_0.out HB.out) | (with_reducible refine Kd.C_alloc ?_ _) | (with_reducible refine Kd.C_drewN ?_ _) | (with_reducible refine Kd.C_drew ?_))); (case side2 => exact HC0_0.out); (case side3 => repeat (first | exact (Kd.C_below HR0_1.out HB.out) | (with_reducible refine Kd.C_alloc ?_ _) | (with_reducible refine Kd.C_drewN ?_ _) | (with_reducible refine Kd.C_drew ?_))); (case side4 => exact HC0_1.out); (case side5 => repeat (first | exact (Kd.C_below HR0_2.out HB.out) | (with_reducible refine Kd.C_alloc ?_ _) | (with_reducible refine Kd.C_drewN ?_ _) | (with_reducible refine Kd.C_drew ?_))); (case side6 => exact HC0_2.out); rintro e w6 ⟨rfl, hb⟩; refine ⟨_, rfl, ?_⟩; have n0_ := Aside0.mk (blk_below (g := gb255) (o := .cells #[.slice A0_0 l0_0.length c0_0, .slice A0_1 l0_1.length c0_1, .slice A0_2 l0_2.length c0_2, .int .i64 a0_3] 26 (0, 0)) (by (with_reducible repeat (first | refine blk_drewN ?_ _ | refine blk_drew ?_ | refine blk_alloc ?_ _)); exact BK255.out) hb); have n1_ := Aside0.mk (below_step (by repeat (first | (with_reducible first | exact HB.out | apply below_alloc | apply pw_below_drewN | apply below_drew1 | refine below_set ?_ GE255.out) | exact HB.out)) hb); clear BK255; clear HB; have BK255 := n0_; have HB := n1_; clear n0_ n1_; (try clear hb); (try clear hb2); (try clear hk); (try clear hi); have hcz7_0 : w6.cell? ⟨gb255, 0, none⟩ = some (.slice A0_0 l0_0.length c0_0) := (blk_cell BK255.out 0).trans rfl; have hcz7_1 : w6.cell? ⟨gb255, 1, none⟩ = some (.slice A0_1 l0_1.length c0_1) := (blk_cell BK255.out 1).trans rfl; have hcz7_2 : w6.cell? ⟨gb255, 2, none⟩ = some (.slice A0_2 l0_2.length c0_2) := (blk_cell BK255.out 2).trans rfl; have hcz7_3 : w6.cell? ⟨gb255, 3, none⟩ = some (.int .i64 a0_3) := (blk_cell BK255.out 3).trans rfl; have hfz7_0 := blk_frozen BK255.out 0; have hfz7_1 := blk_frozen BK255.out 1; have hfz7_2 := blk_frozen BK255.out 2; have hfz7_3 := blk_frozen BK255.out 3) | ((with_reducible refine gate_dst (N := 22) rfl ?_); refine Kd.R_lit (Kd.int .u8) _ 5 ?hg (N := 22) ?hd (xs := ([83, 77, 49, (a0_3) % 256, ((l0_1.length : Int)) % 256] : List Int)) (inner := [.int .u8 83, .int .u8 77, .int .u8 49, .int .u8 ((a0_3) % 256), .int .u8 (((l0_1.length : Int)) % 256)]) (ok := fun _ => True) (okp := fun _ => True) ?hr ?hp (fun _ hk => hk) trivial (Below.refl _ _) (Nat.le_refl _) (by simp) ?_; (case hd => rfl); (case hg => rfl); (case hr => first | (go_simp; done) | (go_simp; rfl)); (case hp => exact (Reps.one (show Kd.M (Kd.int .u8) _ _ _ 83 [.int .u8 83] from rfl) (Reps.one (show Kd.M (Kd.int .u8) _ _ _ 77 [.int .u8 77] from rfl) (Reps.one (show Kd.M (Kd.int .u8) _ _ _ 49 [.int .u8 49] from rfl) (Reps.one (show Kd.M (Kd.int .u8) _ _ _ ((a0_3) % 256) [.int .u8 ((a0_3) % 256)] from rfl) (Reps.one (show Kd.M (Kd.int .u8) _ _ _ (((l0_1.length : Int)) % 256) [.int .u8 (((l0_1.length : Int)) % 256)] from rfl) (Reps.none _ _))))))); intro v258 w8 ho9 hb hg_ hnew_; clear hg_ hnew_; (first | rw [← Ny257.out] at ho9 | (simp only [Int.reduceToNat] at ho9; rw [← Ny257.out] at ho9)); have n0_ := Aside0.mk (Kd.R_lower ho9 (below_size (by repeat (first | (with_reducible first | exact HB.out | apply below_alloc | apply pw_below_drewN | apply below_drew1 | refine below_set ?_ GE255.out) | exact HB.out)))); have n1_ := Aside0.mk (blk_below (g := gb255) (o := .cells #[.slice A0_0 l0_0.length c0_0, .slice A0_1 l0_1.length c0_1, .slice A0_2 l0_2.length c0_2, .int .i64 a0_3] 26 (0, 0)) (by (with_reducible repeat (first | refine blk_drewN ?_ _ | refine blk_drew ?_ | refine blk_alloc ?_ _)); exact BK255.out) hb); have n2_ := Aside0.mk (below_step (by repeat (first | (with_reducible first | exact HB.out | apply below_alloc | apply pw_below_drewN | apply below_drew1 | refine below_set ?_ GE255.out) | exact HB.out)) hb); clear BK255; clear HB; have HO259 := n0_; have BK255 := n1_; have HB := n2_; clear n0_ n1_ n2_; clear hb ho9))
  go_loopg [5, 6] k (fun kq v5 v6 w' => ∃ (x5_1 : List Int) (x6_1 : Int), v6 = .int .i64 x6_1 ∧ Aside0 (selvageref13_Encode.l0 kq x5_1 x6_1 l0_0 l0_1 l0_2 a0_3 = some (r1, r2)) ∧ Aside0 (kq ≤ k) ∧ Aside0 (Kd.R (Kd.int .u8) 5 w' w.heap.size (fun _ => True) v5 x5_1) ∧ Aside0 (w'.heap[gb255]? = some (.cells #[(.slice A0_0 l0_0.length c0_0), (.slice A0_1 l0_1.length c0_1), (.slice A0_2 l0_2.length c0_2), .int .i64 a0_3] 26 (0, 0))) ∧ Aside0 (Below w.heap.size w w'))
  case atStart => exact ⟨(y257), (0), (by first | rfl | (simp; done) | (simp [*]; done)), H', ⟨Nat.le_refl _⟩, ⟨by (with_reducible repeat (first | apply Kd.R_alloc | apply Kd.R_drewN | apply Kd.R_drew)); exact HO259.out⟩, ⟨by (with_reducible repeat (first | refine blk_drewN ?_ _ | refine blk_drew ?_ | refine blk_alloc ?_ _)); exact BK255.out⟩, ⟨by repeat (first | (with_reducible first | exact HB.out | apply below_alloc | apply pw_below_drewN | apply below_drew1 | refine below_set ?_ GE255.out) | exact HB.out)⟩⟩
  case round =>
   clear H'
   try clear c1
   try clear p2
   try clear c3
   try clear hcz5_0
   try clear hcz5_1
   try clear hcz5_2
   try clear hcz5_3
   try clear hcz7_0
   try clear hcz7_1
   try clear hcz7_2
   try clear hcz7_3
   try clear hfz5_0
   try clear hfz5_1
   try clear hfz5_2
   try clear hfz5_3
   try clear hfz7_0
   try clear hfz7_1
   try clear hfz7_2
   try clear hfz7_3
   obtain ⟨x5_1, x6_1, rfl, HA, HK1, HO_5, BK255, HB⟩ := hrel
   cases gk with
   | zero => exact absurd HA.out (by simp [selvageref13_Encode.l0])
   | succ k1 =>
    have H := HA.out
    clear HA
    simp only [selvageref13_Encode.l0] at H
    by_cases c10 : x6_1 < (l0_1.length : Int)
    ·rw [if_pos c10] at H
     have c10b0 : decide (x6_1 < (l0_1.length : Int)) = true := decide_eq_true c10
     clear c10
     by_cases c11 : 0 ≤ x6_1
     ·rw [if_pos c11] at H
      have c11b0 : decide (0 ≤ x6_1) = true := decide_eq_true c11
      clear c11
      replace H := Option.bind_eq_some_iff.mp H
      obtain ⟨t261, A120, H⟩ := H
      replace H : (selvageref13_Encode.l0 k1 t261 (wrap64 (x6_1 + 1)) l0_0 l0_1 l0_2 a0_3) = some (r1, r2) := H
      have A12 := Aside0.mk A120
      clear A120
      have H' := Aside0.mk H
      clear H
      have hcz13_0 : wr.cell? ⟨gb255, 0, none⟩ = some (.slice A0_0 l0_0.length c0_0) := (blk_cell BK255.out 0).trans rfl
      have hcz13_1 : wr.cell? ⟨gb255, 1, none⟩ = some (.slice A0_1 l0_1.length c0_1) := (blk_cell BK255.out 1).trans rfl
      have hcz13_2 : wr.cell? ⟨gb255, 2, none⟩ = some (.slice A0_2 l0_2.length c0_2) := (blk_cell BK255.out 2).trans rfl
      have hcz13_3 : wr.cell? ⟨gb255, 3, none⟩ = some (.int .i64 a0_3) := (blk_cell BK255.out 3).trans rfl
      have hfz13_0 := blk_frozen BK255.out 0
      have hfz13_1 := blk_frozen BK255.out 1
      have hfz13_2 := blk_frozen BK255.out 2
      have hfz13_3 := blk_frozen BK255.out 3
      have p260 : 0 ≤ (x6_1 : Int) := of_decide_eq_true (by first | (with_reducible assumption) | assumption)
      have q260 : x6_1 < (l0_1.length : Int) := of_decide_eq_true (by first | (with_reducible assumption) | assumption)
      obtain ⟨ad260, e260, hx260_0⟩ := Kd.at_int HR0_1.out x6_1 p260 q260
      cases e260
      replace hx260_0 := (HB.out.cell (World.block_lt_of_cell? w _ hx260_0)).trans hx260_0
      replace p260 := eq_true p260
      replace q260 := eq_true q260
      obtain ⟨Ao14, co14, eo14⟩ := Kd.R_slice HO_5.out
      subst eo14
      go_wp2_with (first | ((with_reducible refine gate_callee (f := 23) rfl ?_); refine goesL_ (some 36) rfl rfl Try.func23 (by kernel_rfl) rfl #[.slice Ao14 x5_1.length co14, .int .i64 (rd l0_1 x6_1)] rfl (by (try simp only [List.map_toArray, List.map_cons, List.map_nil]); first | done | rfl | (simp only [List.length_drop, List.length_take]; rfl)) ?_; (with_reducible refine (selvageref13_eight.calls k1 (fun k_ => some k_ = (.slice Ao14 x5_1.length co14 : Value).ownBlock) (.slice Ao14 x5_1.length co14) x5_1 (rd l0_1 x6_1) t261 w _ ?side1 ?side2 A12.out).mono ?_); (case side1 => repeat (first | (with_reducible first | exact HB.out | apply below_alloc | apply pw_below_drewN | apply below_drew1 | refine below_set ?_ GE255.out) | exact HB.out)); (case side2 => exact Kd.R_tight rfl HO_5.out); rintro e w15 ⟨v262, rfl, ho0, hb, hkp⟩; refine ⟨_, rfl, ?_⟩; have n0_ := Aside0.mk (blk_kept (by (with_reducible repeat (first | refine blk_drewN ?_ _ | refine blk_drew ?_ | refine blk_alloc ?_ _)); exact BK255.out) hkp (fun hs_ => (fun e_ => (Kd.R_ne HO_5.out BK255.out (by decide)) e_) hs_)); have n1_ := Aside0.mk (Kd.R_mono (ok' := fun k_ => True) ho0 (fun k_ hk_ => trivial)); have n2_ := Aside0.mk (hb); clear BK255; clear HB; clear HO_5; have BK255 := n0_; have HO263 := n1_; have HB := n2_; clear n0_ n1_ n2_; (try clear hb); (try clear hkp); (try clear ho0)))
      go_roundg k1
      case measure => have := HK1.out; omega
      case rel => exact ⟨(t261), (wrap64 (x6_1 + 1)), (by first | rfl | (simp; done) | (simp [*]; done)), H', ⟨by have := HK1.out; omega⟩, ⟨by (with_reducible repeat (first | apply Kd.R_alloc | apply Kd.R_drewN | apply Kd.R_drew)); exact HO263.out⟩, ⟨by (with_reducible repeat (first | refine blk_drewN ?_ _ | refine blk_drew ?_ | refine blk_alloc ?_ _)); exact BK255.out⟩, ⟨by repeat (first | (with_reducible first | exact HB.out | apply below_alloc | apply pw_below_drewN | apply below_drew1 | refine below_set ?_ GE255.out) | exact HB.out)⟩⟩
     ·rw [if_neg c11] at H
      exact absurd H (by simp)
    ·rw [if_neg c10] at H
     have c10b0 : decide (x6_1 < (l0_1.length : Int)) = false := decide_eq_false c10
     clear c10
     by_cases c16 : x5_1.length < 140737488355328
     ·rw [if_pos c16] at H
      have LMc16 := Aside0.mk c16
      clear c16
      obtain ⟨y264, hy264⟩ : ∃ y_ : List Int, y_ = (x5_1 ++ [((l0_2.length : Int)) % 256]) := ⟨_, rfl⟩
      replace H : (selvageref13_Encode.l1 k1 y264 0 l0_0 l0_1 l0_2 a0_3) = some (r1, r2) := by first | (rw [hy264]; with_reducible exact H) | (have H2_ := (Option.bind_some _ _).symm.trans H; rw [hy264]; with_reducible exact H2_) | (have H2_ := (Option.bind_some _ _).symm.trans H; with_reducible exact H2_) | with_reducible exact H | (rw [hy264]; exact H) | exact H
      have Ny264 := Aside0.mk hy264
      clear hy264
      have H' := Aside0.mk H
      clear H
      have hcz17_0 : wr.cell? ⟨gb255, 0, none⟩ = some (.slice A0_0 l0_0.length c0_0) := (blk_cell BK255.out 0).trans rfl
      have hcz17_1 : wr.cell? ⟨gb255, 1, none⟩ = some (.slice A0_1 l0_1.length c0_1) := (blk_cell BK255.out 1).trans rfl
      have hcz17_2 : wr.cell? ⟨gb255, 2, none⟩ = some (.slice A0_2 l0_2.length c0_2) := (blk_cell BK255.out 2).trans rfl
      have hcz17_3 : wr.cell? ⟨gb255, 3, none⟩ = some (.int .i64 a0_3) := (blk_cell BK255.out 3).trans rfl
      have hfz17_0 := blk_frozen BK255.out 0
      have hfz17_1 := blk_frozen BK255.out 1
      have hfz17_2 := blk_frozen BK255.out 2
      have hfz17_3 := blk_frozen BK255.out 3
      go_wp2_with (first | ((with_reducible refine gate_builtin (b := .append) (xs := #[.tmp 37, .tmp 42]) rfl ?_); at_builtin; refine Kd.R_append (Kd.int .u8) (w0 := w) w.heap.size rfl (.tmp 37) (.tmp 42) 28 5 (.int .u8 0) 1 rfl Try.underlying28 info5 rfl (by decide) (by omega) u5 x5_1 (((l0_2.length : Int)) % 256) [.int .u8 (((l0_2.length : Int)) % 256)] (fun _ => True) (fun _ => False) rfl rfl ?aP (fun _ hk => hk.elim) ?aF ?aO ?aB ?aS ?aL ?_; (case aP => exact rfl); (case aB => exact (by repeat (first | (with_reducible first | exact HB.out | apply below_alloc | apply pw_below_drewN | apply below_drew1 | refine below_set ?_ GE255.out) | exact HB.out))); (case aF => exact (fun _ _ => trivial)); (case aO => exact (by (with_reducible repeat (first | apply Kd.R_alloc | apply Kd.R_drewN | apply Kd.R_drew)); exact HO_5.out)); (case aS => exact (below_size (by repeat (first | (with_reducible first | exact HB.out | apply below_alloc | apply pw_below_drewN | apply below_drew1 | refine below_set ?_ GE255.out) | exact HB.out)))); (case aL => have := LMc16.out; omega); intro v265 w18 ho hb hg hat; rw [← Ny264.out] at ho; have n0_ := Aside0.mk (blk_grown (g := gb255) (o := .cells #[.slice A0_0 l0_0.length c0_0, .slice A0_1 l0_1.length c0_1, .slice A0_2 l0_2.length c0_2, .int .i64 a0_3] 26 (0, 0)) (by (with_reducible repeat (first | refine blk_drewN ?_ _ | refine blk_drew ?_ | refine blk_alloc ?_ _)); exact BK255.out) hg (Kd.R_ne HO_5.out BK255.out (by decide))); have n1_ := Aside0.mk (hb); have n2_ := Aside0.mk (ho); clear BK255; clear HB; clear HO_5; have BK255 := n0_; have HB := n1_; have HO266 := n2_; clear n0_ n1_ n2_; clear ho hb hg hat))
      go_loopg [5, 7] k1 (fun kq v5 v7 w' => ∃ (x5_2 : List Int) (x7_2 : Int), v7 = .int .i64 x7_2 ∧ Aside0 (selvageref13_Encode.l1 kq x5_2 x7_2 l0_0 l0_1 l0_2 a0_3 = some (r1, r2)) ∧ Aside0 (kq ≤ k1) ∧ Aside0 (Kd.R (Kd.int .u8) 5 w' w.heap.size (fun _ => True) v5 x5_2) ∧ Aside0 (w'.heap[gb255]? = some (.cells #[(.slice A0_0 l0_0.length c0_0), (.slice A0_1 l0_1.length c0_1), (.slice A0_2 l0_2.length c0_2), .int .i64 a0_3] 26 (0, 0))) ∧ Aside0 (Below w.heap.size w w'))
      case atStart => exact ⟨(y264), (0), (by first | rfl | (simp; done) | (simp [*]; done)), H', ⟨Nat.le_refl _⟩, ⟨by (with_reducible repeat (first | apply Kd.R_alloc | apply Kd.R_drewN | apply Kd.R_drew)); exact HO266.out⟩, ⟨by (with_reducible repeat (first | refine blk_drewN ?_ _ | refine blk_drew ?_ | refine blk_alloc ?_ _)); exact BK255.out⟩, ⟨by repeat (first | (with_reducible first | exact HB.out | apply below_alloc | apply pw_below_drewN | apply below_drew1 | refine below_set ?_ GE255.out) | exact HB.out)⟩⟩
      case round =>
       clear H'
       try clear c1
       try clear c2
       try clear p2
       try clear q2
       try clear hx2
       try clear c3
       try clear p6
       try clear c10
       try clear c10b0
       try clear c11
       try clear c11b0
       try clear c14
       try clear c16
       try clear hcz13_0
       try clear hcz13_1
       try clear hcz13_2
       try clear hcz13_3
       try clear hcz17_0
       try clear hcz17_1
       try clear hcz17_2
       try clear hcz17_3
       try clear hcz5_0
       try clear hcz5_1
       try clear hcz5_2
       try clear hcz5_3
       try clear hcz7_0
       try clear hcz7_1
       try clear hcz7_2
       try clear hcz7_3
       try clear hfz13_0
       try clear hfz13_1
       try clear hfz13_2
       try clear hfz13_3
       try clear hfz17_0
       try clear hfz17_1
       try clear hfz17_2
       try clear hfz17_3
       try clear hfz5_0
       try clear hfz5_1
       try clear hfz5_2
       try clear hfz5_3
       try clear hfz7_0
       try clear hfz7_1
       try clear hfz7_2
       try clear hfz7_3
       try clear hx260_0
       try clear p2
       try clear p260
       try clear q260
       obtain ⟨x5_2, x7_2, rfl, HA, HK2, HO_5, BK255, HB⟩ := hrel
       cases gk with
       | zero => exact absurd HA.out (by simp [selvageref13_Encode.l1])
       | succ k2 =>
        have H := HA.out
        clear HA
        simp only [selvageref13_Encode.l1] at H
        by_cases c19 : x7_2 < (l0_2.length : Int)
        ·rw [if_pos c19] at H
         have c19b0 : decide (x7_2 < (l0_2.length : Int)) = true := decide_eq_true c19
         clear c19
         by_cases c20 : 0 ≤ x7_2
         ·rw [if_pos c20] at H
          have c20b0 : decide (0 ≤ x7_2) = true := decide_eq_true c20
          clear c20
          by_cases c21 : x5_2.length < 140737488355328
          ·rw [if_pos c21] at H
           have LMc21 := Aside0.mk c21
           clear c21
           obtain ⟨y268, hy268⟩ : ∃ y_ : List Int, y_ = (x5_2 ++ [(((rdOf ByteArray.empty l0_2 x7_2).size : Int)) % 256]) := ⟨_, rfl⟩
           replace H : (if y268.length + (rdOf ByteArray.empty l0_2 x7_2).size < 140737488355328 then (selvageref13_Encode.l1 k2 (y268 ++ bytesOf (rdOf ByteArray.empty l0_2 x7_2)) (wrap64 (x7_2 + 1)) l0_0 l0_1 l0_2 a0_3) else (none)) = some (r1, r2) := by first | (rw [hy268]; with_reducible exact H) | (have H2_ := (Option.bind_some _ _).symm.trans H; rw [hy268]; with_reducible exact H2_) | (have H2_ := (Option.bind_some _ _).symm.trans H; with_reducible exact H2_) | with_reducible exact H | (rw [hy268]; exact H) | exact H
           have Ny268 := Aside0.mk hy268
           clear hy268
           by_cases c22 : y268.length + (rdOf ByteArray.empty l0_2 x7_2).size < 140737488355328
           ·rw [if_pos c22] at H
            have LMc22 := Aside0.mk c22
            clear c22
            obtain ⟨y272, hy272⟩ : ∃ y_ : List Int, y_ = (y268 ++ bytesOf (rdOf ByteArray.empty l0_2 x7_2)) := ⟨_, rfl⟩
            replace H : (selvageref13_Encode.l1 k2 y272 (wrap64 (x7_2 + 1)) l0_0 l0_1 l0_2 a0_3) = some (r1, r2) := by first | (rw [hy272]; with_reducible exact H) | (have H2_ := (Option.bind_some _ _).symm.trans H; rw [hy272]; with_reducible exact H2_) | (have H2_ := (Option.bind_some _ _).symm.trans H; with_reducible exact H2_) | with_reducible exact H | (rw [hy272]; exact H) | exact H
            have Ny272 := Aside0.mk hy272
            clear hy272
            have H' := Aside0.mk H
            clear H
            have hcz23_0 : wr.cell? ⟨gb255, 0, none⟩ = some (.slice A0_0 l0_0.length c0_0) := (blk_cell BK255.out 0).trans rfl
            have hcz23_1 : wr.cell? ⟨gb255, 1, none⟩ = some (.slice A0_1 l0_1.length c0_1) := (blk_cell BK255.out 1).trans rfl
            have hcz23_2 : wr.cell? ⟨gb255, 2, none⟩ = some (.slice A0_2 l0_2.length c0_2) := (blk_cell BK255.out 2).trans rfl
            have hcz23_3 : wr.cell? ⟨gb255, 3, none⟩ = some (.int .i64 a0_3) := (blk_cell BK255.out 3).trans rfl
            have hfz23_0 := blk_frozen BK255.out 0
            have hfz23_1 := blk_frozen BK255.out 1
            have hfz23_2 := blk_frozen BK255.out 2
            have hfz23_3 := blk_frozen BK255.out 3
            have p267 : 0 ≤ (x7_2 : Int) := of_decide_eq_true (by first | (with_reducible assumption) | assumption)
            have q267 : x7_2 < (l0_2.length : Int) := of_decide_eq_true (by first | (with_reducible assumption) | assumption)
            obtain ⟨ad267, e267, hx267_0⟩ := Kd.at_string HR0_2.out x7_2 p267 q267
            cases e267
            replace hx267_0 := (HB.out.cell (World.block_lt_of_cell? w _ hx267_0)).trans hx267_0
            replace p267 := eq_true p267
            replace q267 := eq_true q267
            go_wp2_with (first | ((with_reducible refine gate_builtin (b := .append) (xs := #[.tmp 51, .tmp 59]) rfl ?_); at_builtin; refine Kd.R_append (Kd.int .u8) (w0 := w) w.heap.size rfl (.tmp 51) (.tmp 59) 28 5 (.int .u8 0) 1 rfl Try.underlying28 info5 rfl (by decide) (by omega) u5 x5_2 ((((rdOf ByteArray.empty l0_2 x7_2).size : Int)) % 256) [.int .u8 ((((rdOf ByteArray.empty l0_2 x7_2).size : Int)) % 256)] (fun _ => True) (fun _ => False) rfl rfl ?aP (fun _ hk => hk.elim) ?aF ?aO ?aB ?aS ?aL ?_; (case aP => exact rfl); (case aB => exact (by repeat (first | (with_reducible first | exact HB.out | apply below_alloc | apply pw_below_drewN | apply below_drew1 | refine below_set ?_ GE255.out) | exact HB.out))); (case aF => exact (fun _ _ => trivial)); (case aO => exact (by (with_reducible repeat (first | apply Kd.R_alloc | apply Kd.R_drewN | apply Kd.R_drew)); exact HO_5.out)); (case aS => exact (below_size (by repeat (first | (with_reducible first | exact HB.out | apply below_alloc | apply pw_below_drewN | apply below_drew1 | refine below_set ?_ GE255.out) | exact HB.out)))); (case aL => have := LMc21.out; omega); intro v269 w24 ho hb hg hat; rw [← Ny268.out] at ho; have n0_ := Aside0.mk (blk_grown (g := gb255) (o := .cells #[.slice A0_0 l0_0.length c0_0, .slice A0_1 l0_1.length c0_1, .slice (some ad267) l0_2.length c0_2, .int .i64 a0_3] 26 (0, 0)) (by (with_reducible repeat (first | refine blk_drewN ?_ _ | refine blk_drew ?_ | refine blk_alloc ?_ _)); exact BK255.out) hg (Kd.R_ne HO_5.out BK255.out (by decide))); have n1_ := Aside0.mk (hb); have n2_ := Aside0.mk (ho); clear BK255; clear HB; clear HO_5; have BK255 := n0_; have HB := n1_; have HO270 := n2_; clear n0_ n1_ n2_; clear ho hb hg hat; have hcz25_0 : w24.cell? ⟨gb255, 0, none⟩ = some (.slice A0_0 l0_0.length c0_0) := (blk_cell BK255.out 0).trans rfl; have hcz25_1 : w24.cell? ⟨gb255, 1, none⟩ = some (.slice A0_1 l0_1.length c0_1) := (blk_cell BK255.out 1).trans rfl; have hcz25_2 : w24.cell? ⟨gb255, 2, none⟩ = some (.slice (some ad267) l0_2.length c0_2) := (blk_cell BK255.out 2).trans rfl; have hcz25_3 : w24.cell? ⟨gb255, 3, none⟩ = some (.int .i64 a0_3) := (blk_cell BK255.out 3).trans rfl; have hfz25_0 := blk_frozen BK255.out 0; have hfz25_1 := blk_frozen BK255.out 1; have hfz25_2 := blk_frozen BK255.out 2; have hfz25_3 := blk_frozen BK255.out 3; have p271 : 0 ≤ (x7_2 : Int) := of_decide_eq_true (by first | (with_reducible assumption) | assumption); have q271 : x7_2 < (l0_2.length : Int) := of_decide_eq_true (by first | (with_reducible assumption) | assumption); obtain ⟨ad271, e271, hx271_0⟩ := Kd.at_string HR0_2.out x7_2 p271 q271; obtain rfl : ad267 = ad271 := (by injection e271); replace hx271_0 := (HB.out.cell (World.block_lt_of_cell? w _ hx271_0)).trans hx271_0; replace p271 := eq_true p271; replace q271 := eq_true q271) | (at_builtin; refine print_append_str (w0 := w) w.heap.size rfl (.tmp 61) _ 28 9 5 rfl Try.underlying28 Try.underlying9 info5 v269 y268 (rdOf ByteArray.empty l0_2 x7_2) rfl rfl ?aO ?aB ?aS ?aL ?_; (case aB => exact (by repeat (first | (with_reducible first | exact HB.out | apply below_alloc | apply pw_below_drewN | apply below_drew1 | refine below_set ?_ GE255.out) | exact HB.out))); (case aO => exact (Kd.own_of_R (by (with_reducible repeat (first | apply Kd.R_alloc | apply Kd.R_drewN | apply Kd.R_drew)); exact HO270.out))); (case aS => exact (below_size (by repeat (first | (with_reducible first | exact HB.out | apply below_alloc | apply pw_below_drewN | apply below_drew1 | refine below_set ?_ GE255.out) | exact HB.out)))); (case aL => have := LMc22.out; omega); intro v273 w26 ho0 hb hg; have ho := Kd.R_of_own (h1 := fun _ => rfl) (ok := fun _ => True) ho0 (fun _ _ => trivial); clear ho0; have hat := True.intro; rw [← Ny272.out] at ho; change Kd.R (Kd.int .u8) 5 w26 w.heap.size (fun _ => True) v273 y272 at ho; have n0_ := Aside0.mk (blk_grown (g := gb255) (o := .cells #[.slice A0_0 l0_0.length c0_0, .slice A0_1 l0_1.length c0_1, .slice (some ad267) l0_2.length c0_2, .int .i64 a0_3] 26 (0, 0)) (by (with_reducible repeat (first | refine blk_drewN ?_ _ | refine blk_drew ?_ | refine blk_alloc ?_ _)); exact BK255.out) hg (Kd.R_ne HO270.out BK255.out (by decide))); have n1_ := Aside0.mk (hb); have n2_ := Aside0.mk (ho); clear BK255; clear HB; clear HO270; have BK255 := n0_; have HB := n1_; have HO274 := n2_; clear n0_ n1_ n2_; clear ho hb hg hat))
            go_roundg k2
            case measure => have := HK1.out; have := HK2.out; omega
            case rel => exact ⟨(y272), (wrap64 (x7_2 + 1)), (by first | rfl | (simp; done) | (simp [*]; done)), H', ⟨by have := HK1.out; have := HK2.out; omega⟩, ⟨by (with_reducible repeat (first | apply Kd.R_alloc | apply Kd.R_drewN | apply Kd.R_drew)); exact HO274.out⟩, ⟨by (with_reducible repeat (first | refine blk_drewN ?_ _ | refine blk_drew ?_ | refine blk_alloc ?_ _)); exact BK255.out⟩, ⟨by repeat (first | (with_reducible first | exact HB.out | apply below_alloc | apply pw_below_drewN | apply below_drew1 | refine below_set ?_ GE255.out) | exact HB.out)⟩⟩
           ·rw [if_neg c22] at H
            exact absurd H (by simp)
          ·rw [if_neg c21] at H
           exact absurd H (by simp)
         ·rw [if_neg c20] at H
          exact absurd H (by simp)
        ·rw [if_neg c19] at H
         have c19b0 : decide (x7_2 < (l0_2.length : Int)) = false := decide_eq_false c19
         clear c19
         by_cases c27 : x5_2.length < 140737488355328
         ·rw [if_pos c27] at H
          have LMc27 := Aside0.mk c27
          clear c27
          obtain ⟨y275, hy275⟩ : ∃ y_ : List Int, y_ = (x5_2 ++ [((l0_0.length : Int)) % 256]) := ⟨_, rfl⟩
          replace H : (selvageref13_Encode.l2 k2 y275 0 l0_0 l0_1 l0_2 a0_3) = some (r1, r2) := by first | (rw [hy275]; with_reducible exact H) | (have H2_ := (Option.bind_some _ _).symm.trans H; rw [hy275]; with_reducible exact H2_) | (have H2_ := (Option.bind_some _ _).symm.trans H; with_reducible exact H2_) | with_reducible exact H | (rw [hy275]; exact H) | exact H
          have Ny275 := Aside0.mk hy275
          clear hy275
          have H' := Aside0.mk H
          clear H
          have hcz28_0 : wr.cell? ⟨gb255, 0, none⟩ = some (.slice A0_0 l0_0.length c0_0) := (blk_cell BK255.out 0).trans rfl
          have hcz28_1 : wr.cell? ⟨gb255, 1, none⟩ = some (.slice A0_1 l0_1.length c0_1) := (blk_cell BK255.out 1).trans rfl
          have hcz28_2 : wr.cell? ⟨gb255, 2, none⟩ = some (.slice A0_2 l0_2.length c0_2) := (blk_cell BK255.out 2).trans rfl
          have hcz28_3 : wr.cell? ⟨gb255, 3, none⟩ = some (.int .i64 a0_3) := (blk_cell BK255.out 3).trans rfl
          have hfz28_0 := blk_frozen BK255.out 0
          have hfz28_1 := blk_frozen BK255.out 1
          have hfz28_2 := blk_frozen BK255.out 2
          have hfz28_3 := blk_frozen BK255.out 3
          go_wp2_with (first | ((with_reducible refine gate_builtin (b := .append) (xs := #[.tmp 68, .tmp 73]) rfl ?_); at_builtin; refine Kd.R_append (Kd.int .u8) (w0 := w) w.heap.size rfl (.tmp 68) (.tmp 73) 28 5 (.int .u8 0) 1 rfl Try.underlying28 info5 rfl (by decide) (by omega) u5 x5_2 (((l0_0.length : Int)) % 256) [.int .u8 (((l0_0.length : Int)) % 256)] (fun _ => True) (fun _ => False) rfl rfl ?aP (fun _ hk => hk.elim) ?aF ?aO ?aB ?aS ?aL ?_; (case aP => exact rfl); (case aB => exact (by repeat (first | (with_reducible first | exact HB.out | apply below_alloc | apply pw_below_drewN | apply below_drew1 | refine below_set ?_ GE255.out) | exact HB.out))); (case aF => exact (fun _ _ => trivial)); (case aO => exact (by (with_reducible repeat (first | apply Kd.R_alloc | apply Kd.R_drewN | apply Kd.R_drew)); exact HO_5.out)); (case aS => exact (below_size (by repeat (first | (with_reducible first | exact HB.out | apply below_alloc | apply pw_below_drewN | apply below_drew1 | refine below_set ?_ GE255.out) | exact HB.out)))); (case aL => have := LMc27.out; omega); intro v276 w29 ho hb hg hat; rw [← Ny275.out] at ho; have n0_ := Aside0.mk (blk_grown (g := gb255) (o := .cells #[.slice A0_0 l0_0.length c0_0, .slice A0_1 l0_1.length c0_1, .slice A0_2 l0_2.length c0_2, .int .i64 a0_3] 26 (0, 0)) (by (with_reducible repeat (first | refine blk_drewN ?_ _ | refine blk_drew ?_ | refine blk_alloc ?_ _)); exact BK255.out) hg (Kd.R_ne HO_5.out BK255.out (by decide))); have n1_ := Aside0.mk (hb); have n2_ := Aside0.mk (ho); clear BK255; clear HB; clear HO_5; have BK255 := n0_; have HB := n1_; have HO277 := n2_; clear n0_ n1_ n2_; clear ho hb hg hat))
          go_loopg [5, 8] k2 (fun kq v5 v8 w' => ∃ (x5_3 : List Int) (x8_3 : Int), v8 = .int .i64 x8_3 ∧ Aside0 (selvageref13_Encode.l2 kq x5_3 x8_3 l0_0 l0_1 l0_2 a0_3 = some (r1, r2)) ∧ Aside0 (kq ≤ k2) ∧ Aside0 (Kd.R (Kd.int .u8) 5 w' w.heap.size (fun _ => True) v5 x5_3) ∧ Aside0 (w'.heap[gb255]? = some (.cells #[(.slice A0_0 l0_0.length c0_0), (.slice A0_1 l0_1.length c0_1), (.slice A0_2 l0_2.length c0_2), .int .i64 a0_3] 26 (0, 0))) ∧ Aside0 (Below w.heap.size w w'))
          case atStart => exact ⟨(y275), (0), (by first | rfl | (simp; done) | (simp [*]; done)), H', ⟨Nat.le_refl _⟩, ⟨by (with_reducible repeat (first | apply Kd.R_alloc | apply Kd.R_drewN | apply Kd.R_drew)); exact HO277.out⟩, ⟨by (with_reducible repeat (first | refine blk_drewN ?_ _ | refine blk_drew ?_ | refine blk_alloc ?_ _)); exact BK255.out⟩, ⟨by repeat (first | (with_reducible first | exact HB.out | apply below_alloc | apply pw_below_drewN | apply below_drew1 | refine below_set ?_ GE255.out) | exact HB.out)⟩⟩
          case round =>
           clear H'
           try clear c1
           try clear c2
           try clear p2
           try clear q2
           try clear hx2
           try clear c3
           try clear p6
           try clear c10
           try clear c10b0
           try clear c11
           try clear c11b0
           try clear c14
           try clear c16
           try clear c19
           try clear c19b0
           try clear c20
           try clear c20b0
           try clear c21
           try clear c22
           try clear c23
           try clear p26
           try clear q26
           try clear hx26
           try clear c27
           try clear p27
           try clear q27
           try clear hx27
           try clear hcz13_0
           try clear hcz13_1
           try clear hcz13_2
           try clear hcz13_3
           try clear hcz17_0
           try clear hcz17_1
           try clear hcz17_2
           try clear hcz17_3
           try clear hcz23_0
           try clear hcz23_1
           try clear hcz23_2
           try clear hcz23_3
           try clear hcz25_0
           try clear hcz25_1
           try clear hcz25_2
           try clear hcz25_3
           try clear hcz28_0
           try clear hcz28_1
           try clear hcz28_2
           try clear hcz28_3
           try clear hcz5_0
           try clear hcz5_1
           try clear hcz5_2
           try clear hcz5_3
           try clear hcz7_0
           try clear hcz7_1
           try clear hcz7_2
           try clear hcz7_3
           try clear hfz13_0
           try clear hfz13_1
           try clear hfz13_2
           try clear hfz13_3
           try clear hfz17_0
           try clear hfz17_1
           try clear hfz17_2
           try clear hfz17_3
           try clear hfz23_0
           try clear hfz23_1
           try clear hfz23_2
           try clear hfz23_3
           try clear hfz25_0
           try clear hfz25_1
           try clear hfz25_2
           try clear hfz25_3
           try clear hfz28_0
           try clear hfz28_1
           try clear hfz28_2
           try clear hfz28_3
           try clear hfz5_0
           try clear hfz5_1
           try clear hfz5_2
           try clear hfz5_3
           try clear hfz7_0
           try clear hfz7_1
           try clear hfz7_2
           try clear hfz7_3
           try clear hx260_0
           try clear hx267_0
           try clear hx271_0
           try clear p2
           try clear p260
           try clear p267
           try clear p271
           try clear p6
           try clear q2
           try clear q260
           try clear q267
           try clear q271
           obtain ⟨x5_3, x8_3, rfl, HA, HK3, HO_5, BK255, HB⟩ := hrel
           cases gk with
           | zero => exact absurd HA.out (by simp [selvageref13_Encode.l2])
           | succ k3 =>
            have H := HA.out
            clear HA
            simp only [selvageref13_Encode.l2] at H
            by_cases c30 : x8_3 < (l0_0.length : Int)
            ·rw [if_pos c30] at H
             have c30b0 : decide (x8_3 < (l0_0.length : Int)) = true := decide_eq_true c30
             clear c30
             by_cases c31 : 0 ≤ x8_3
             ·rw [if_pos c31] at H
              have c31b0 : decide (0 ≤ x8_3) = true := decide_eq_true c31
              clear c31
              obtain ⟨y280, hy280⟩ : ∃ y_ : List Int, y_ = (([((rd_T40 l0_0 x8_3).f0) % 256, ((rd_T40 l0_0 x8_3).f1) % 256, ((rd_T40 l0_0 x8_3).f2) % 256] : List Int)) := ⟨_, rfl⟩
              replace H : (if x5_3.length + y280.length < 140737488355328 then ((selvageref13_two.f (x5_3 ++ y280) (((rd_T40 l0_0 x8_3).f3).length : Int)).bind fun t286 => (selvageref13_Encode.l3 k3 t286 x8_3 0 l0_0 l0_1 l0_2 a0_3 ((rd_T40 l0_0 x8_3).f0) ((rd_T40 l0_0 x8_3).f1) ((rd_T40 l0_0 x8_3).f2) ((rd_T40 l0_0 x8_3).f3))) else (none)) = some (r1, r2) := by first | (rw [hy280]; with_reducible exact H) | (have H2_ := (Option.bind_some _ _).symm.trans H; rw [hy280]; with_reducible exact H2_) | (have H2_ := (Option.bind_some _ _).symm.trans H; with_reducible exact H2_) | with_reducible exact H | (rw [hy280]; exact H) | exact H
              have Ny280 := Aside0.mk hy280
              clear hy280
              by_cases c32 : x5_3.length + y280.length < 140737488355328
              ·rw [if_pos c32] at H
               have LMc32 := Aside0.mk c32
               clear c32
               obtain ⟨y283, hy283⟩ : ∃ y_ : List Int, y_ = (x5_3 ++ y280) := ⟨_, rfl⟩
               replace H : ((selvageref13_two.f y283 (((rd_T40 l0_0 x8_3).f3).length : Int)).bind fun t286 => (selvageref13_Encode.l3 k3 t286 x8_3 0 l0_0 l0_1 l0_2 a0_3 ((rd_T40 l0_0 x8_3).f0) ((rd_T40 l0_0 x8_3).f1) ((rd_T40 l0_0 x8_3).f2) ((rd_T40 l0_0 x8_3).f3))) = some (r1, r2) := by first | (rw [hy283]; with_reducible exact H) | (have H2_ := (Option.bind_some _ _).symm.trans H; rw [hy283]; with_reducible exact H2_) | (have H2_ := (Option.bind_some _ _).symm.trans H; with_reducible exact H2_) | with_reducible exact H | (rw [hy283]; exact H) | exact H
               have Ny283 := Aside0.mk hy283
               clear hy283
               replace H := Option.bind_eq_some_iff.mp H
               obtain ⟨t286, A330, H⟩ := H
               replace H : (selvageref13_Encode.l3 k3 t286 x8_3 0 l0_0 l0_1 l0_2 a0_3 ((rd_T40 l0_0 x8_3).f0) ((rd_T40 l0_0 x8_3).f1) ((rd_T40 l0_0 x8_3).f2) ((rd_T40 l0_0 x8_3).f3)) = some (r1, r2) := H
               have A33 := Aside0.mk A330
               clear A330
               have H' := Aside0.mk H
               clear H
               have hcz34_0 : wr.cell? ⟨gb255, 0, none⟩ = some (.slice A0_0 l0_0.length c0_0) := (blk_cell BK255.out 0).trans rfl
               have hcz34_1 : wr.cell? ⟨gb255, 1, none⟩ = some (.slice A0_1 l0_1.length c0_1) := (blk_cell BK255.out 1).trans rfl
               have hcz34_2 : wr.cell? ⟨gb255, 2, none⟩ = some (.slice A0_2 l0_2.length c0_2) := (blk_cell BK255.out 2).trans rfl
               have hcz34_3 : wr.cell? ⟨gb255, 3, none⟩ = some (.int .i64 a0_3) := (blk_cell BK255.out 3).trans rfl
               have hfz34_0 := blk_frozen BK255.out 0
               have hfz34_1 := blk_frozen BK255.out 1
               have hfz34_2 := blk_frozen BK255.out 2
               have hfz34_3 := blk_frozen BK255.out 3
               have p278 : 0 ≤ (x8_3 : Int) := of_decide_eq_true (by first | (with_reducible assumption) | assumption)
               have q278 : x8_3 < (l0_0.length : Int) := of_decide_eq_true (by first | (with_reducible assumption) | assumption)
               obtain ⟨ad278, A278_3, c278_3, e278, hx278_0, hx278_1, hx278_2, hx278_3, hl278_3, hi278_3⟩ := at_T40 HR0_0.out x8_3 p278 q278
               cases e278
               replace hx278_0 := (HB.out.cell (World.block_lt_of_cell? w _ hx278_0)).trans hx278_0
               replace hx278_1 := (HB.out.cell (World.block_lt_of_cell? w _ hx278_1)).trans hx278_1
               replace hx278_2 := (HB.out.cell (World.block_lt_of_cell? w _ hx278_2)).trans hx278_2
               replace hx278_3 := (HB.out.cell (World.block_lt_of_cell? w _ hx278_3)).trans hx278_3
               have HR278_3 := Aside0.mk hi278_3
               have HC278_3 := Aside0.mk hl278_3
               clear hi278_3 hl278_3
               replace p278 := eq_true p278
               replace q278 := eq_true q278
               go_wp2_with (first | ((with_reducible refine gate_dst (N := 9) rfl ?_); refine box_event ?hg (N := 9) ?hd (cs := #[.int .i64 0, .int .i64 0, .int .i64 0, .slice none 0 0]) (t := 40) ?hr ?_; (case hd => rfl); (case hg => rfl); (case hr => first | (go_simp; done) | (go_simp; rfl)); intro gb279 hg w35 hbox hb; have n0_ := Aside0.mk (Kd.R_below (by (with_reducible repeat (first | apply Kd.R_alloc | apply Kd.R_drewN | apply Kd.R_drew)); exact HO_5.out) hb); have n1_ := Aside0.mk (blk_below (g := gb255) (o := .cells #[.slice (some ad278) l0_0.length c0_0, .slice A0_1 l0_1.length c0_1, .slice A0_2 l0_2.length c0_2, .int .i64 a0_3] 26 (0, 0)) (by (with_reducible repeat (first | refine blk_drewN ?_ _ | refine blk_drew ?_ | refine blk_alloc ?_ _)); exact BK255.out) hb); have n2_ := Aside0.mk (below_step (by repeat (first | (with_reducible first | exact HB.out | apply below_alloc | apply pw_below_drewN | apply below_drew1 | refine below_set ?_ GE255.out) | exact HB.out)) hb); have n3_ := Aside0.mk (hbox); have n4_ := Aside0.mk ((by rw [hg]; exact (below_size (by repeat (first | (with_reducible first | exact HB.out | apply below_alloc | apply pw_below_drewN | apply below_drew1 | refine below_set ?_ GE255.out) | exact HB.out))) : w.heap.size ≤ gb279)); have n5_ := Aside0.mk ((by rw [hg]; exact (below_size (by repeat (first | (with_reducible first | exact HB.out | apply below_alloc | apply pw_below_drewN | apply below_drew1 | refine below_set ?_ GE255.out) | exact HB.out))) : w.heap.size ≤ gb279)); have n6_ := Aside0.mk ((by rw [hg]; exact Nat.ne_of_lt (blk_lt (g := gb255) (o := .cells #[.slice (some ad278) l0_0.length c0_0, .slice A0_1 l0_1.length c0_1, .slice A0_2 l0_2.length c0_2, .int .i64 a0_3] 26 (0, 0)) (by (with_reducible repeat (first | refine blk_drewN ?_ _ | refine blk_drew ?_ | refine blk_alloc ?_ _)); exact BK255.out)) : gb255 ≠ gb279)); have n7_ := Aside0.mk ((by rw [hg]; exact Nat.ne_of_gt (blk_lt (g := gb255) (o := .cells #[.slice (some ad278) l0_0.length c0_0, .slice A0_1 l0_1.length c0_1, .slice A0_2 l0_2.length c0_2, .int .i64 a0_3] 26 (0, 0)) (by (with_reducible repeat (first | refine blk_drewN ?_ _ | refine blk_drew ?_ | refine blk_alloc ?_ _)); exact BK255.out)) : gb279 ≠ gb255)); clear HO_5; clear BK255; clear HB; have HO_5 := n0_; have BK255 := n1_; have HB := n2_; have BK279 := n3_; have GW279 := n4_; have GE279 := n5_; have NB255_279 := n6_; have NB279_255 := n7_; clear n0_ n1_ n2_ n3_ n4_ n5_ n6_ n7_; clear hb hbox hg; have hnb36 := NB279_255.out; have hnc36 := NB255_279.out; have hcz37_0 : w35.cell? ⟨gb279, 0, none⟩ = some (.int .i64 0) := (blk_cell BK279.out 0).trans rfl; have hcz37_1 : w35.cell? ⟨gb279, 1, none⟩ = some (.int .i64 0) := (blk_cell BK279.out 1).trans rfl; have hcz37_2 : w35.cell? ⟨gb279, 2, none⟩ = some (.int .i64 0) := (blk_cell BK279.out 2).trans rfl; have hcz37_3 : w35.cell? ⟨gb279, 3, none⟩ = some (.slice none 0 0) := (blk_cell BK279.out 3).trans rfl; have hfz37_0 := blk_frozen BK279.out 0; have hfz37_1 := blk_frozen BK279.out 1; have hfz37_2 := blk_frozen BK279.out 2; have hfz37_3 := blk_frozen BK279.out 3) | ((with_reducible refine gate_dst (N := 97) rfl ?_); refine Kd.R_lit (Kd.int .u8) _ 5 ?hg (N := 97) ?hd (xs := ([((rd_T40 l0_0 x8_3).f0) % 256, ((rd_T40 l0_0 x8_3).f1) % 256, ((rd_T40 l0_0 x8_3).f2) % 256] : List Int)) (inner := [.int .u8 (((rd_T40 l0_0 x8_3).f0) % 256), .int .u8 (((rd_T40 l0_0 x8_3).f1) % 256), .int .u8 (((rd_T40 l0_0 x8_3).f2) % 256)]) (ok := fun _ => True) (okp := fun _ => True) ?hr ?hp (fun _ hk => hk) trivial (Below.refl _ _) (Nat.le_refl _) (by simp) ?_; (case hd => rfl); (case hg => rfl); (case hr => first | (go_simp; done) | (go_simp; rfl)); (case hp => exact (Reps.one (show Kd.M (Kd.int .u8) _ _ _ (((rd_T40 l0_0 x8_3).f0) % 256) [.int .u8 (((rd_T40 l0_0 x8_3).f0) % 256)] from rfl) (Reps.one (show Kd.M (Kd.int .u8) _ _ _ (((rd_T40 l0_0 x8_3).f1) % 256) [.int .u8 (((rd_T40 l0_0 x8_3).f1) % 256)] from rfl) (Reps.one (show Kd.M (Kd.int .u8) _ _ _ (((rd_T40 l0_0 x8_3).f2) % 256) [.int .u8 (((rd_T40 l0_0 x8_3).f2) % 256)] from rfl) (Reps.none _ _))))); intro v281 w38 ho39 hb hg_ hnew_; clear hg_ hnew_; (first | rw [← Ny280.out] at ho39 | (simp only [Int.reduceToNat] at ho39; rw [← Ny280.out] at ho39)); have n0_ := Aside0.mk (Kd.R_elder' (by (with_reducible repeat (first | apply Kd.R_alloc | apply Kd.R_drewN | apply Kd.R_drew)); exact (Kd.R_mono (Kd.R_far (p := ⟨gb279, 3, none⟩) (Kd.R_far (p := ⟨gb279, 2, none⟩) (Kd.R_far (p := ⟨gb279, 1, none⟩) (Kd.R_far (p := ⟨gb279, 0, none⟩) (Kd.R_types HO_5.out BK279.out (by decide)) (fun _ hk => hk.2) (.int .i64 ((rd_T40 l0_0 x8_3).f0))) (fun _ hk => hk.2) (.int .i64 ((rd_T40 l0_0 x8_3).f1))) (fun _ hk => hk.2) (.int .i64 ((rd_T40 l0_0 x8_3).f2))) (fun _ hk => hk.2) (.slice A278_3 ((rd_T40 l0_0 x8_3).f3).length c278_3)) (fun _ h_ => h_.1))) (Kd.R_base ho39) hb); have n1_ := Aside0.mk (Kd.R_lower (Kd.R_new' ho39 (Kd.R_lt (by (with_reducible repeat (first | apply Kd.R_alloc | apply Kd.R_drewN | apply Kd.R_drew)); exact (Kd.R_mono (Kd.R_far (p := ⟨gb279, 3, none⟩) (Kd.R_far (p := ⟨gb279, 2, none⟩) (Kd.R_far (p := ⟨gb279, 1, none⟩) (Kd.R_far (p := ⟨gb279, 0, none⟩) (Kd.R_types HO_5.out BK279.out (by decide)) (fun _ hk => hk.2) (.int .i64 ((rd_T40 l0_0 x8_3).f0))) (fun _ hk => hk.2) (.int .i64 ((rd_T40 l0_0 x8_3).f1))) (fun _ hk => hk.2) (.int .i64 ((rd_T40 l0_0 x8_3).f2))) (fun _ hk => hk.2) (.slice A278_3 ((rd_T40 l0_0 x8_3).f3).length c278_3)) (fun _ h_ => h_.1))))) (below_size (by repeat (first | (with_reducible first | exact HB.out | apply below_alloc | apply pw_below_drewN | apply below_drew1 | refine below_set ?_ GE255.out | refine below_set ?_ GE279.out) | exact HB.out)))); have n2_ := Aside0.mk (blk_below (g := gb255) (o := .cells #[.slice (some ad278) l0_0.length c0_0, .slice A0_1 l0_1.length c0_1, .slice A0_2 l0_2.length c0_2, .int .i64 a0_3] 26 (0, 0)) (by (with_reducible repeat (first | refine blk_drewN ?_ _ | refine blk_drew ?_ | refine blk_alloc ?_ _)); refine blk_far ?_ NB255_279.out _; (with_reducible repeat (first | refine blk_drewN ?_ _ | refine blk_drew ?_ | refine blk_alloc ?_ _)); refine blk_far ?_ NB255_279.out _; (with_reducible repeat (first | refine blk_drewN ?_ _ | refine blk_drew ?_ | refine blk_alloc ?_ _)); refine blk_far ?_ NB255_279.out _; (with_reducible repeat (first | refine blk_drewN ?_ _ | refine blk_drew ?_ | refine blk_alloc ?_ _)); refine blk_far ?_ NB255_279.out _; (with_reducible repeat (first | refine blk_drewN ?_ _ | refine blk_drew ?_ | refine blk_alloc ?_ _)); exact BK255.out) hb); have n3_ := Aside0.mk (blk_below (g := gb279) (o := .cells #[.int .i64 ((rd_T40 l0_0 x8_3).f0), .int .i64 ((rd_T40 l0_0 x8_3).f1), .int .i64 ((rd_T40 l0_0 x8_3).f2), .slice A278_3 ((rd_T40 l0_0 x8_3).f3).length c278_3] 40 (0, 0)) (by (with_reducible repeat (first | refine blk_drewN ?_ _ | refine blk_drew ?_ | refine blk_alloc ?_ _)); refine blk_put (cs := #[.int .i64 ((rd_T40 l0_0 x8_3).f0), .int .i64 ((rd_T40 l0_0 x8_3).f1), .int .i64 ((rd_T40 l0_0 x8_3).f2), .slice none 0 0]) ?_ 3 _ rfl; (with_reducible repeat (first | refine blk_drewN ?_ _ | refine blk_drew ?_ | refine blk_alloc ?_ _)); refine blk_put (cs := #[.int .i64 ((rd_T40 l0_0 x8_3).f0), .int .i64 ((rd_T40 l0_0 x8_3).f1), .int .i64 0, .slice none 0 0]) ?_ 2 _ rfl; (with_reducible repeat (first | refine blk_drewN ?_ _ | refine blk_drew ?_ | refine blk_alloc ?_ _)); refine blk_put (cs := #[.int .i64 ((rd_T40 l0_0 x8_3).f0), .int .i64 0, .int .i64 0, .slice none 0 0]) ?_ 1 _ rfl; (with_reducible repeat (first | refine blk_drewN ?_ _ | refine blk_drew ?_ | refine blk_alloc ?_ _)); refine blk_put (cs := #[.int .i64 0, .int .i64 0, .int .i64 0, .slice none 0 0]) ?_ 0 _ rfl; (with_reducible repeat (first | refine blk_drewN ?_ _ | refine blk_drew ?_ | refine blk_alloc ?_ _)); exact BK279.out) hb); have n4_ := Aside0.mk (below_step (by repeat (first | (with_reducible first | exact HB.out | apply below_alloc | apply pw_below_drewN | apply below_drew1 | refine below_set ?_ GE255.out | refine below_set ?_ GE279.out) | exact HB.out)) hb); clear HO_5; clear BK255; clear BK279; clear HB; have HO_5 := n0_; have HO282 := n1_; have BK255 := n2_; have BK279 := n3_; have HB := n4_; clear n0_ n1_ n2_ n3_ n4_; clear hb ho39; obtain ⟨Ao41, co41, eo41⟩ := Kd.R_slice HO282.out; subst eo41) | ((with_reducible refine gate_builtin (b := .append) (xs := #[.tmp 87, .tmp 97]) rfl ?_); at_builtin; refine Kd.R_append_rows (Kd.int .u8) (w0 := w) w.heap.size rfl (.tmp 87) (.tmp 97) 28 5 (.int .u8 0) 1 rfl Try.underlying28 info5 rfl (by decide) (by omega) u5 x5_3 y280 _ _ _ (fun k_ => some k_ ≠ (.slice Ao41 y280.length co41 : Value).ownBlock) (fun _ => False) rfl rfl ?aO ?aR (fun _ _ h => h) (fun _ h => h.elim) ?aF ?aB ?aS ?aL ?_; (case aR => repeat (first | exact (Kd.R_reads' HO282.out).2.2 | (with_reducible refine Kd.C_alloc ?_ _) | (with_reducible refine Kd.C_drewN ?_ _) | (with_reducible refine Kd.C_drew ?_))); (case aB => exact (by repeat (first | (with_reducible first | exact HB.out | apply below_alloc | apply pw_below_drewN | apply below_drew1 | refine below_set ?_ GE255.out | refine below_set ?_ GE279.out) | exact HB.out))); (case aF => exact (fun k_ hk => Kd.fresh' (Kd.R_lt (by (with_reducible repeat (first | apply Kd.R_alloc | apply Kd.R_drewN | apply Kd.R_drew)); exact HO282.out)) k_ hk)); (case aO => exact (by (with_reducible repeat (first | apply Kd.R_alloc | apply Kd.R_drewN | apply Kd.R_drew)); exact Kd.R_mono HO_5.out (fun _ hk => hk.2))); (case aS => exact (below_size (by repeat (first | (with_reducible first | exact HB.out | apply below_alloc | apply pw_below_drewN | apply below_drew1 | refine below_set ?_ GE255.out | refine below_set ?_ GE279.out) | exact HB.out)))); (case aL => have := LMc32.out; omega); intro v284 w40 ho hb hg hat; rw [← Ny283.out] at ho; have n0_ := Aside0.mk (blk_grown (g := gb255) (o := .cells #[.slice (some ad278) l0_0.length c0_0, .slice A0_1 l0_1.length c0_1, .slice A0_2 l0_2.length c0_2, .int .i64 a0_3] 26 (0, 0)) (by (with_reducible repeat (first | refine blk_drewN ?_ _ | refine blk_drew ?_ | refine blk_alloc ?_ _)); exact BK255.out) hg (Kd.R_ne HO_5.out BK255.out (by decide))); have n1_ := Aside0.mk (blk_grown (g := gb279) (o := .cells #[.int .i64 ((rd_T40 l0_0 x8_3).f0), .int .i64 ((rd_T40 l0_0 x8_3).f1), .int .i64 ((rd_T40 l0_0 x8_3).f2), .slice A278_3 ((rd_T40 l0_0 x8_3).f3).length c278_3] 40 (0, 0)) (by (with_reducible repeat (first | refine blk_drewN ?_ _ | refine blk_drew ?_ | refine blk_alloc ?_ _)); exact BK279.out) hg (Kd.R_ne HO_5.out BK279.out (by decide))); have n2_ := Aside0.mk (Kd.R_after (ok := (fun _ => True)) (by (with_reducible repeat (first | apply Kd.R_alloc | apply Kd.R_drewN | apply Kd.R_drew)); exact HO282.out) hg hat); have n3_ := Aside0.mk (hb); have n4_ := Aside0.mk (ho); clear BK255; clear BK279; clear HO282; clear HB; clear HO_5; have BK255 := n0_; have BK279 := n1_; have HO282 := n2_; have HB := n3_; have HO285 := n4_; clear n0_ n1_ n2_ n3_ n4_; clear ho hb hg hat; have hcz42_0 : w40.cell? ⟨gb279, 0, none⟩ = some (.int .i64 ((rd_T40 l0_0 x8_3).f0)) := (blk_cell BK279.out 0).trans rfl; have hcz42_1 : w40.cell? ⟨gb279, 1, none⟩ = some (.int .i64 ((rd_T40 l0_0 x8_3).f1)) := (blk_cell BK279.out 1).trans rfl; have hcz42_2 : w40.cell? ⟨gb279, 2, none⟩ = some (.int .i64 ((rd_T40 l0_0 x8_3).f2)) := (blk_cell BK279.out 2).trans rfl; have hcz42_3 : w40.cell? ⟨gb279, 3, none⟩ = some (.slice A278_3 ((rd_T40 l0_0 x8_3).f3).length c278_3) := (blk_cell BK279.out 3).trans rfl; have hfz42_0 := blk_frozen BK279.out 0; have hfz42_1 := blk_frozen BK279.out 1; have hfz42_2 := blk_frozen BK279.out 2; have hfz42_3 := blk_frozen BK279.out 3; obtain ⟨Ao43, co43, eo43⟩ := Kd.R_slice HO285.out; subst eo43) | ((with_reducible refine gate_callee (f := 24) rfl ?_); refine goesL_ (some 103) rfl rfl Try.func24 (by kernel_rfl) rfl #[.slice Ao43 y283.length co43, .int .i64 (((rd_T40 l0_0 x8_3).f3).length : Int)] rfl (by (try simp only [List.map_toArray, List.map_cons, List.map_nil]); first | done | rfl | (simp only [List.length_drop, List.length_take]; rfl)) ?_; (with_reducible refine (selvageref13_two.calls (fun k_ => some k_ = (.slice Ao43 y283.length co43 : Value).ownBlock) (.slice Ao43 y283.length co43) y283 (((rd_T40 l0_0 x8_3).f3).length : Int) t286 w _ ?side1 ?side2 A33.out).mono ?_); (case side1 => repeat (first | (with_reducible first | exact HB.out | apply below_alloc | apply pw_below_drewN | apply below_drew1 | refine below_set ?_ GE255.out | refine below_set ?_ GE279.out) | exact HB.out)); (case side2 => exact Kd.R_tight rfl HO285.out); rintro e w44 ⟨v287, rfl, ho0, hb, hkp⟩; refine ⟨_, rfl, ?_⟩; have n0_ := Aside0.mk (blk_kept (by (with_reducible repeat (first | refine blk_drewN ?_ _ | refine blk_drew ?_ | refine blk_alloc ?_ _)); exact BK255.out) hkp (fun hs_ => (fun e_ => (Kd.R_ne HO285.out BK255.out (by decide)) e_) hs_)); have n1_ := Aside0.mk (blk_kept (by (with_reducible repeat (first | refine blk_drewN ?_ _ | refine blk_drew ?_ | refine blk_alloc ?_ _)); exact BK279.out) hkp (fun hs_ => (fun e_ => (Kd.R_ne HO285.out BK279.out (by decide)) e_) hs_)); have n2_ := Aside0.mk (Kd.R_mono (ok' := fun k_ => some k_ ≠ (v287 : Value).ownBlock) (Kd.R_keptB (HO282.out) hkp (fun k_ hk_ hs_ => (hk_.2) hs_)) (fun k_ hk_ => fun e_ => Or.elim (ho0.1 k_ e_.symm) (fun hs_ => hk_.2.1 hs_) (fun hn_ => Nat.not_le.2 hk_.2.2 hn_))); have n3_ := Aside0.mk (Kd.R_mono (ok' := fun k_ => some k_ ≠ (.slice Ao41 y280.length co41 : Value).ownBlock) ho0 (fun k_ hk_ => Or.elim hk_ (fun hs_ => fun e_ => (((HO282.out).1 k_ e_.symm).2) hs_) (fun hn_ => (Kd.fresh' (Kd.R_lt (by (with_reducible repeat (first | apply Kd.R_alloc | apply Kd.R_drewN | apply Kd.R_drew)); exact HO282.out)) k_ hn_)))); have n4_ := Aside0.mk (hb); clear BK255; clear BK279; clear HO282; clear HB; clear HO285; have BK255 := n0_; have BK279 := n1_; have HO282 := n2_; have HO288 := n3_; have HB := n4_; clear n0_ n1_ n2_ n3_ n4_; (try clear hb); (try clear hkp); (try clear ho0)))
               go_loopg [5, 10] k3 (fun kq v5 v10 w' => ∃ (x5_4 : List Int) (x10_4 : Int), v10 = .int .i64 x10_4 ∧ Aside0 (selvageref13_Encode.l3 kq x5_4 x8_3 x10_4 l0_0 l0_1 l0_2 a0_3 ((rd_T40 l0_0 x8_3).f0) ((rd_T40 l0_0 x8_3).f1) ((rd_T40 l0_0 x8_3).f2) ((rd_T40 l0_0 x8_3).f3) = some (r1, r2)) ∧ Aside0 (kq ≤ k3) ∧ Aside0 (Kd.R (Kd.int .u8) 5 w' w.heap.size (fun _ => True) v5 x5_4) ∧ Aside0 (w'.heap[gb255]? = some (.cells #[(.slice (some ad278) l0_0.length c0_0), (.slice A0_1 l0_1.length c0_1), (.slice A0_2 l0_2.length c0_2), .int .i64 a0_3] 26 (0, 0))) ∧ Aside0 (w'.heap[gb279]? = some (.cells #[.int .i64 ((rd_T40 l0_0 x8_3).f0), .int .i64 ((rd_T40 l0_0 x8_3).f1), .int .i64 ((rd_T40 l0_0 x8_3).f2), (.slice A278_3 ((rd_T40 l0_0 x8_3).f3).length c278_3)] 40 (0, 0))) ∧ Aside0 (Below w.heap.size w w'))
               case atStart => exact ⟨(t286), (0), (by first | rfl | (simp; done) | (simp [*]; done)), H', ⟨Nat.le_refl _⟩, ⟨by (with_reducible repeat (first | apply Kd.R_alloc | apply Kd.R_drewN | apply Kd.R_drew)); exact Kd.R_mono HO288.out (fun _ hk => trivial)⟩, ⟨by (with_reducible repeat (first | refine blk_drewN ?_ _ | refine blk_drew ?_ | refine blk_alloc ?_ _)); exact BK255.out⟩, ⟨by (with_reducible repeat (first | refine blk_drewN ?_ _ | refine blk_drew ?_ | refine blk_alloc ?_ _)); exact BK279.out⟩, ⟨by repeat (first | (with_reducible first | exact HB.out | apply below_alloc | apply pw_below_drewN | apply below_drew1 | refine below_set ?_ GE255.out | refine below_set ?_ GE279.out) | exact HB.out)⟩⟩
               case round =>
                clear H'
                try clear c1
                try clear c2
                try clear p2
                try clear q2
                try clear hx2
                try clear c3
                try clear p6
                try clear c10
                try clear c10b0
                try clear c11
                try clear c11b0
                try clear c14
                try clear c16
                try clear c19
                try clear c19b0
                try clear c20
                try clear c20b0
                try clear c21
                try clear c22
                try clear c23
                try clear c24
                try clear p26
                try clear q26
                try clear hx26
                try clear c27
                try clear p27
                try clear q27
                try clear hx27
                try clear c30
                try clear c30b0
                try clear c31
                try clear c31b0
                try clear c32
                try clear c36
                try clear hcz13_0
                try clear hcz13_1
                try clear hcz13_2
                try clear hcz13_3
                try clear hcz17_0
                try clear hcz17_1
                try clear hcz17_2
                try clear hcz17_3
                try clear hcz23_0
                try clear hcz23_1
                try clear hcz23_2
                try clear hcz23_3
                try clear hcz25_0
                try clear hcz25_1
                try clear hcz25_2
                try clear hcz25_3
                try clear hcz28_0
                try clear hcz28_1
                try clear hcz28_2
                try clear hcz28_3
                try clear hcz34_0
                try clear hcz34_1
                try clear hcz34_2
                try clear hcz34_3
                try clear hcz37_0
                try clear hcz37_1
                try clear hcz37_2
                try clear hcz37_3
                try clear hcz42_0
                try clear hcz42_1
                try clear hcz42_2
                try clear hcz42_3
                try clear hcz5_0
                try clear hcz5_1
                try clear hcz5_2
                try clear hcz5_3
                try clear hcz7_0
                try clear hcz7_1
                try clear hcz7_2
                try clear hcz7_3
                try clear hfz13_0
                try clear hfz13_1
                try clear hfz13_2
                try clear hfz13_3
                try clear hfz17_0
                try clear hfz17_1
                try clear hfz17_2
                try clear hfz17_3
                try clear hfz23_0
                try clear hfz23_1
                try clear hfz23_2
                try clear hfz23_3
                try clear hfz25_0
                try clear hfz25_1
                try clear hfz25_2
                try clear hfz25_3
                try clear hfz28_0
                try clear hfz28_1
                try clear hfz28_2
                try clear hfz28_3
                try clear hfz34_0
                try clear hfz34_1
                try clear hfz34_2
                try clear hfz34_3
                try clear hfz37_0
                try clear hfz37_1
                try clear hfz37_2
                try clear hfz37_3
                try clear hfz42_0
                try clear hfz42_1
                try clear hfz42_2
                try clear hfz42_3
                try clear hfz5_0
                try clear hfz5_1
                try clear hfz5_2
                try clear hfz5_3
                try clear hfz7_0
                try clear hfz7_1
                try clear hfz7_2
                try clear hfz7_3
                try clear hx260_0
                try clear hx267_0
                try clear hx271_0
                try clear hx278_0
                try clear hx278_1
                try clear hx278_2
                try clear hx278_3
                try clear p2
                try clear p26
                try clear p260
                try clear p267
                try clear p27
                try clear p271
                try clear p278
                try clear p6
                try clear q2
                try clear q26
                try clear q260
                try clear q267
                try clear q27
                try clear q271
                try clear q278
                obtain ⟨x5_4, x10_4, rfl, HA, HK4, HO_5, BK255, BK279, HB⟩ := hrel
                cases gk with
                | zero => exact absurd HA.out (by simp [selvageref13_Encode.l3])
                | succ k4 =>
                 have H := HA.out
                 clear HA
                 simp only [selvageref13_Encode.l3] at H
                 by_cases c45 : x10_4 < (((rd_T40 l0_0 x8_3).f3).length : Int)
                 ·rw [if_pos c45] at H
                  have c45b0 : decide (x10_4 < (((rd_T40 l0_0 x8_3).f3).length : Int)) = true := decide_eq_true c45
                  clear c45
                  by_cases c46 : 0 ≤ x10_4
                  ·rw [if_pos c46] at H
                   have c46b0 : decide (0 ≤ x10_4) = true := decide_eq_true c46
                   clear c46
                   by_cases c47 : x5_4.length < 140737488355328
                   ·rw [if_pos c47] at H
                    have LMc47 := Aside0.mk c47
                    clear c47
                    obtain ⟨y290, hy290⟩ : ∃ y_ : List Int, y_ = (x5_4 ++ [((rd_T42 ((rd_T40 l0_0 x8_3).f3) x10_4).f0) % 256]) := ⟨_, rfl⟩
                    replace H : ((selvageref13_two.f y290 ((rd_T42 ((rd_T40 l0_0 x8_3).f3) x10_4).f1)).bind fun t294 => ((selvageref13_two.f t294 ((rd_T42 ((rd_T40 l0_0 x8_3).f3) x10_4).f2)).bind fun t298 => (selvageref13_Encode.l3 k4 t298 x8_3 (wrap64 (x10_4 + 1)) l0_0 l0_1 l0_2 a0_3 ((rd_T40 l0_0 x8_3).f0) ((rd_T40 l0_0 x8_3).f1) ((rd_T40 l0_0 x8_3).f2) ((rd_T40 l0_0 x8_3).f3)))) = some (r1, r2) := by first | (rw [hy290]; with_reducible exact H) | (have H2_ := (Option.bind_some _ _).symm.trans H; rw [hy290]; with_reducible exact H2_) | (have H2_ := (Option.bind_some _ _).symm.trans H; with_reducible exact H2_) | with_reducible exact H | (rw [hy290]; exact H) | exact H
                    have Ny290 := Aside0.mk hy290
                    clear hy290
                    replace H := Option.bind_eq_some_iff.mp H
                    obtain ⟨t294, A480, H⟩ := H
                    replace H : ((selvageref13_two.f t294 ((rd_T42 ((rd_T40 l0_0 x8_3).f3) x10_4).f2)).bind fun t298 => (selvageref13_Encode.l3 k4 t298 x8_3 (wrap64 (x10_4 + 1)) l0_0 l0_1 l0_2 a0_3 ((rd_T40 l0_0 x8_3).f0) ((rd_T40 l0_0 x8_3).f1) ((rd_T40 l0_0 x8_3).f2) ((rd_T40 l0_0 x8_3).f3))) = some (r1, r2) := H
                    have A48 := Aside0.mk A480
                    clear A480
                    replace H := Option.bind_eq_some_iff.mp H
                    obtain ⟨t298, A490, H⟩ := H
                    replace H : (selvageref13_Encode.l3 k4 t298 x8_3 (wrap64 (x10_4 + 1)) l0_0 l0_1 l0_2 a0_3 ((rd_T40 l0_0 x8_3).f0) ((rd_T40 l0_0 x8_3).f1) ((rd_T40 l0_0 x8_3).f2) ((rd_T40 l0_0 x8_3).f3)) = some (r1, r2) := H
                    have A49 := Aside0.mk A490
                    clear A490
                    have H' := Aside0.mk H
                    clear H
                    have hnb50 := NB279_255.out
                    have hnc50 := NB255_279.out
                    have hcz51_0 : wr.cell? ⟨gb279, 0, none⟩ = some (.int .i64 ((rd_T40 l0_0 x8_3).f0)) := (blk_cell BK279.out 0).trans rfl
                    have hcz51_1 : wr.cell? ⟨gb279, 1, none⟩ = some (.int .i64 ((rd_T40 l0_0 x8_3).f1)) := (blk_cell BK279.out 1).trans rfl
                    have hcz51_2 : wr.cell? ⟨gb279, 2, none⟩ = some (.int .i64 ((rd_T40 l0_0 x8_3).f2)) := (blk_cell BK279.out 2).trans rfl
                    have hcz51_3 : wr.cell? ⟨gb279, 3, none⟩ = some (.slice A278_3 ((rd_T40 l0_0 x8_3).f3).length c278_3) := (blk_cell BK279.out 3).trans rfl
                    have hfz51_0 := blk_frozen BK279.out 0
                    have hfz51_1 := blk_frozen BK279.out 1
                    have hfz51_2 := blk_frozen BK279.out 2
                    have hfz51_3 := blk_frozen BK279.out 3
                    have p289 : 0 ≤ (x10_4 : Int) := of_decide_eq_true (by first | (with_reducible assumption) | assumption)
                    have q289 : x10_4 < (((rd_T40 l0_0 x8_3).f3).length : Int) := of_decide_eq_true (by first | (with_reducible assumption) | assumption)
                    obtain ⟨ad289, e289, hx289_0, hx289_1, hx289_2⟩ := at_T42 HR278_3.out x10_4 p289 q289
                    cases e289
                    replace hx289_0 := (HB.out.cell (World.block_lt_of_cell? w _ hx289_0)).trans hx289_0
                    replace hx289_1 := (HB.out.cell (World.block_lt_of_cell? w _ hx289_1)).trans hx289_1
                    replace hx289_2 := (HB.out.cell (World.block_lt_of_cell? w _ hx289_2)).trans hx289_2
                    replace p289 := eq_true p289
                    replace q289 := eq_true q289
                    go_wp2_with (first | ((with_reducible refine gate_builtin (b := .append) (xs := #[.tmp 111, .tmp 119]) rfl ?_); at_builtin; refine Kd.R_append (Kd.int .u8) (w0 := w) w.heap.size rfl (.tmp 111) (.tmp 119) 28 5 (.int .u8 0) 1 rfl Try.underlying28 info5 rfl (by decide) (by omega) u5 x5_4 (((rd_T42 ((rd_T40 l0_0 x8_3).f3) x10_4).f0) % 256) [.int .u8 (((rd_T42 ((rd_T40 l0_0 x8_3).f3) x10_4).f0) % 256)] (fun _ => True) (fun _ => False) rfl rfl ?aP (fun _ hk => hk.elim) ?aF ?aO ?aB ?aS ?aL ?_; (case aP => exact rfl); (case aB => exact (by repeat (first | (with_reducible first | exact HB.out | apply below_alloc | apply pw_below_drewN | apply below_drew1 | refine below_set ?_ GE255.out | refine below_set ?_ GE279.out) | exact HB.out))); (case aF => exact (fun _ _ => trivial)); (case aO => exact (by (with_reducible repeat (first | apply Kd.R_alloc | apply Kd.R_drewN | apply Kd.R_drew)); exact HO_5.out)); (case aS => exact (below_size (by repeat (first | (with_reducible first | exact HB.out | apply below_alloc | apply pw_below_drewN | apply below_drew1 | refine below_set ?_ GE255.out | refine below_set ?_ GE279.out) | exact HB.out)))); (case aL => have := LMc47.out; omega); intro v291 w52 ho hb hg hat; rw [← Ny290.out] at ho; have n0_ := Aside0.mk (blk_grown (g := gb255) (o := .cells #[.slice (some ad278) l0_0.length c0_0, .slice A0_1 l0_1.length c0_1, .slice A0_2 l0_2.length c0_2, .int .i64 a0_3] 26 (0, 0)) (by (with_reducible repeat (first | refine blk_drewN ?_ _ | refine blk_drew ?_ | refine blk_alloc ?_ _)); exact BK255.out) hg (Kd.R_ne HO_5.out BK255.out (by decide))); have n1_ := Aside0.mk (blk_grown (g := gb279) (o := .cells #[.int .i64 ((rd_T40 l0_0 x8_3).f0), .int .i64 ((rd_T40 l0_0 x8_3).f1), .int .i64 ((rd_T40 l0_0 x8_3).f2), .slice (some ad289) ((rd_T40 l0_0 x8_3).f3).length c278_3] 40 (0, 0)) (by (with_reducible repeat (first | refine blk_drewN ?_ _ | refine blk_drew ?_ | refine blk_alloc ?_ _)); exact BK279.out) hg (Kd.R_ne HO_5.out BK279.out (by decide))); have n2_ := Aside0.mk (hb); have n3_ := Aside0.mk (ho); clear BK255; clear BK279; clear HB; clear HO_5; have BK255 := n0_; have BK279 := n1_; have HB := n2_; have HO292 := n3_; clear n0_ n1_ n2_ n3_; clear ho hb hg hat; have hcz53_0 : w52.cell? ⟨gb279, 0, none⟩ = some (.int .i64 ((rd_T40 l0_0 x8_3).f0)) := (blk_cell BK279.out 0).trans rfl; have hcz53_1 : w52.cell? ⟨gb279, 1, none⟩ = some (.int .i64 ((rd_T40 l0_0 x8_3).f1)) := (blk_cell BK279.out 1).trans rfl; have hcz53_2 : w52.cell? ⟨gb279, 2, none⟩ = some (.int .i64 ((rd_T40 l0_0 x8_3).f2)) := (blk_cell BK279.out 2).trans rfl; have hcz53_3 : w52.cell? ⟨gb279, 3, none⟩ = some (.slice (some ad289) ((rd_T40 l0_0 x8_3).f3).length c278_3) := (blk_cell BK279.out 3).trans rfl; have hfz53_0 := blk_frozen BK279.out 0; have hfz53_1 := blk_frozen BK279.out 1; have hfz53_2 := blk_frozen BK279.out 2; have hfz53_3 := blk_frozen BK279.out 3; have p293 : 0 ≤ (x10_4 : Int) := of_decide_eq_true (by first | (with_reducible assumption) | assumption); have q293 : x10_4 < (((rd_T40 l0_0 x8_3).f3).length : Int) := of_decide_eq_true (by first | (with_reducible assumption) | assumption); obtain ⟨ad293, e293, hx293_0, hx293_1, hx293_2⟩ := at_T42 HR278_3.out x10_4 p293 q293; obtain rfl : ad289 = ad293 := (by injection e293); replace hx293_0 := (HB.out.cell (World.block_lt_of_cell? w _ hx293_0)).trans hx293_0; replace hx293_1 := (HB.out.cell (World.block_lt_of_cell? w _ hx293_1)).trans hx293_1; replace hx293_2 := (HB.out.cell (World.block_lt_of_cell? w _ hx293_2)).trans hx293_2; replace p293 := eq_true p293; replace q293 := eq_true q293; obtain ⟨Ao54, co54, eo54⟩ := Kd.R_slice HO292.out; subst eo54) | ((with_reducible refine gate_callee (f := 24) rfl ?_); refine goesL_ (some 128) rfl rfl Try.func24 (by kernel_rfl) rfl #[.slice Ao54 y290.length co54, .int .i64 ((rd_T42 ((rd_T40 l0_0 x8_3).f3) x10_4).f1)] rfl (by (try simp only [List.map_toArray, List.map_cons, List.map_nil]); first | done | rfl | (simp only [List.length_drop, List.length_take]; rfl)) ?_; (with_reducible refine (selvageref13_two.calls (fun k_ => some k_ = (.slice Ao54 y290.length co54 : Value).ownBlock) (.slice Ao54 y290.length co54) y290 ((rd_T42 ((rd_T40 l0_0 x8_3).f3) x10_4).f1) t294 w _ ?side1 ?side2 A48.out).mono ?_); (case side1 => repeat (first | (with_reducible first | exact HB.out | apply below_alloc | apply pw_below_drewN | apply below_drew1 | refine below_set ?_ GE255.out | refine below_set ?_ GE279.out) | exact HB.out)); (case side2 => exact Kd.R_tight rfl HO292.out); rintro e w55 ⟨v295, rfl, ho0, hb, hkp⟩; refine ⟨_, rfl, ?_⟩; have n0_ := Aside0.mk (blk_kept (by (with_reducible repeat (first | refine blk_drewN ?_ _ | refine blk_drew ?_ | refine blk_alloc ?_ _)); exact BK255.out) hkp (fun hs_ => (fun e_ => (Kd.R_ne HO292.out BK255.out (by decide)) e_) hs_)); have n1_ := Aside0.mk (blk_kept (by (with_reducible repeat (first | refine blk_drewN ?_ _ | refine blk_drew ?_ | refine blk_alloc ?_ _)); exact BK279.out) hkp (fun hs_ => (fun e_ => (Kd.R_ne HO292.out BK279.out (by decide)) e_) hs_)); have n2_ := Aside0.mk (Kd.R_mono (ok' := fun k_ => True) ho0 (fun k_ hk_ => trivial)); have n3_ := Aside0.mk (hb); clear BK255; clear BK279; clear HB; clear HO292; have BK255 := n0_; have BK279 := n1_; have HO296 := n2_; have HB := n3_; clear n0_ n1_ n2_ n3_; (try clear hb); (try clear hkp); (try clear ho0); have hcz56_0 : w55.cell? ⟨gb279, 0, none⟩ = some (.int .i64 ((rd_T40 l0_0 x8_3).f0)) := (blk_cell BK279.out 0).trans rfl; have hcz56_1 : w55.cell? ⟨gb279, 1, none⟩ = some (.int .i64 ((rd_T40 l0_0 x8_3).f1)) := (blk_cell BK279.out 1).trans rfl; have hcz56_2 : w55.cell? ⟨gb279, 2, none⟩ = some (.int .i64 ((rd_T40 l0_0 x8_3).f2)) := (blk_cell BK279.out 2).trans rfl; have hcz56_3 : w55.cell? ⟨gb279, 3, none⟩ = some (.slice (some ad289) ((rd_T40 l0_0 x8_3).f3).length c278_3) := (blk_cell BK279.out 3).trans rfl; have hfz56_0 := blk_frozen BK279.out 0; have hfz56_1 := blk_frozen BK279.out 1; have hfz56_2 := blk_frozen BK279.out 2; have hfz56_3 := blk_frozen BK279.out 3; have p297 : 0 ≤ (x10_4 : Int) := of_decide_eq_true (by first | (with_reducible assumption) | assumption); have q297 : x10_4 < (((rd_T40 l0_0 x8_3).f3).length : Int) := of_decide_eq_true (by first | (with_reducible assumption) | assumption); obtain ⟨ad297, e297, hx297_0, hx297_1, hx297_2⟩ := at_T42 HR278_3.out x10_4 p297 q297; obtain rfl : ad289 = ad297 := (by injection e297); replace hx297_0 := (HB.out.cell (World.block_lt_of_cell? w _ hx297_0)).trans hx297_0; replace hx297_1 := (HB.out.cell (World.block_lt_of_cell? w _ hx297_1)).trans hx297_1; replace hx297_2 := (HB.out.cell (World.block_lt_of_cell? w _ hx297_2)).trans hx297_2; replace p297 := eq_true p297; replace q297 := eq_true q297; obtain ⟨Ao57, co57, eo57⟩ := Kd.R_slice HO296.out; subst eo57) | ((with_reducible refine gate_callee (f := 24) rfl ?_); refine goesL_ (some 136) rfl rfl Try.func24 (by kernel_rfl) rfl #[.slice Ao57 t294.length co57, .int .i64 ((rd_T42 ((rd_T40 l0_0 x8_3).f3) x10_4).f2)] rfl (by (try simp only [List.map_toArray, List.map_cons, List.map_nil]); first | done | rfl | (simp only [List.length_drop, List.length_take]; rfl)) ?_; (with_reducible refine (selvageref13_two.calls (fun k_ => some k_ = (.slice Ao57 t294.length co57 : Value).ownBlock) (.slice Ao57 t294.length co57) t294 ((rd_T42 ((rd_T40 l0_0 x8_3).f3) x10_4).f2) t298 w _ ?side1 ?side2 A49.out).mono ?_); (case side1 => repeat (first | (with_reducible first | exact HB.out | apply below_alloc | apply pw_below_drewN | apply below_drew1 | refine below_set ?_ GE255.out | refine below_set ?_ GE279.out) | exact HB.out)); (case side2 => exact Kd.R_tight rfl HO296.out); rintro e w58 ⟨v299, rfl, ho0, hb, hkp⟩; refine ⟨_, rfl, ?_⟩; have n0_ := Aside0.mk (blk_kept (by (with_reducible repeat (first | refine blk_drewN ?_ _ | refine blk_drew ?_ | refine blk_alloc ?_ _)); exact BK255.out) hkp (fun hs_ => (fun e_ => (Kd.R_ne HO296.out BK255.out (by decide)) e_) hs_)); have n1_ := Aside0.mk (blk_kept (by (with_reducible repeat (first | refine blk_drewN ?_ _ | refine blk_drew ?_ | refine blk_alloc ?_ _)); exact BK279.out) hkp (fun hs_ => (fun e_ => (Kd.R_ne HO296.out BK279.out (by decide)) e_) hs_)); have n2_ := Aside0.mk (Kd.R_mono (ok' := fun k_ => True) ho0 (fun k_ hk_ => trivial)); have n3_ := Aside0.mk (hb); clear BK255; clear BK279; clear HB; clear HO296; have BK255 := n0_; have BK279 := n1_; have HO300 := n2_; have HB := n3_; clear n0_ n1_ n2_ n3_; (try clear hb); (try clear hkp); (try clear ho0)))
                    go_roundg k4
                    case measure => have := HK1.out; have := HK2.out; have := HK3.out; have := HK4.out; omega
                    case rel => exact ⟨(t298), (wrap64 (x10_4 + 1)), (by first | rfl | (simp; done) | (simp [*]; done)), H', ⟨by have := HK1.out; have := HK2.out; have := HK3.out; have := HK4.out; omega⟩, ⟨by (with_reducible repeat (first | apply Kd.R_alloc | apply Kd.R_drewN | apply Kd.R_drew)); exact HO300.out⟩, ⟨by (with_reducible repeat (first | refine blk_drewN ?_ _ | refine blk_drew ?_ | refine blk_alloc ?_ _)); exact BK255.out⟩, ⟨by (with_reducible repeat (first | refine blk_drewN ?_ _ | refine blk_drew ?_ | refine blk_alloc ?_ _)); exact BK279.out⟩, ⟨by repeat (first | (with_reducible first | exact HB.out | apply below_alloc | apply pw_below_drewN | apply below_drew1 | refine below_set ?_ GE255.out | refine below_set ?_ GE279.out) | exact HB.out)⟩⟩
                   ·rw [if_neg c47] at H
                    exact absurd H (by simp)
                  ·rw [if_neg c46] at H
                   exact absurd H (by simp)
                 ·rw [if_neg c45] at H
                  have c45b0 : decide (x10_4 < (((rd_T40 l0_0 x8_3).f3).length : Int)) = false := decide_eq_false c45
                  clear c45
                  have H' := Aside0.mk H
                  clear H
                  have hnb59 := NB279_255.out
                  have hnc59 := NB255_279.out
                  have hcz60_0 : wr.cell? ⟨gb279, 0, none⟩ = some (.int .i64 ((rd_T40 l0_0 x8_3).f0)) := (blk_cell BK279.out 0).trans rfl
                  have hcz60_1 : wr.cell? ⟨gb279, 1, none⟩ = some (.int .i64 ((rd_T40 l0_0 x8_3).f1)) := (blk_cell BK279.out 1).trans rfl
                  have hcz60_2 : wr.cell? ⟨gb279, 2, none⟩ = some (.int .i64 ((rd_T40 l0_0 x8_3).f2)) := (blk_cell BK279.out 2).trans rfl
                  have hcz60_3 : wr.cell? ⟨gb279, 3, none⟩ = some (.slice A278_3 ((rd_T40 l0_0 x8_3).f3).length c278_3) := (blk_cell BK279.out 3).trans rfl
                  have hfz60_0 := blk_frozen BK279.out 0
                  have hfz60_1 := blk_frozen BK279.out 1
                  have hfz60_2 := blk_frozen BK279.out 2
                  have hfz60_3 := blk_frozen BK279.out 3
                  go_wp2
                  go_roundg k4
                  case measure => have := HK1.out; have := HK2.out; have := HK3.out; have := HK4.out; omega
                  case rel => exact ⟨(x5_4), (wrap64 (x8_3 + 1)), (by first | rfl | (simp; done) | (simp [*]; done)), H', ⟨by have := HK1.out; have := HK2.out; have := HK3.out; have := HK4.out; omega⟩, ⟨by (with_reducible repeat (first | apply Kd.R_alloc | apply Kd.R_drewN | apply Kd.R_drew)); exact HO_5.out⟩, ⟨by (with_reducible repeat (first | refine blk_drewN ?_ _ | refine blk_drew ?_ | refine blk_alloc ?_ _)); exact BK255.out⟩, ⟨by repeat (first | (with_reducible first | exact HB.out | apply below_alloc | apply pw_below_drewN | apply below_drew1 | refine below_set ?_ GE255.out | refine below_set ?_ GE279.out) | exact HB.out)⟩⟩
              ·rw [if_neg c32] at H
               exact absurd H (by simp)
             ·rw [if_neg c31] at H
              exact absurd H (by simp)
            ·rw [if_neg c30] at H
             have c30b0 : decide (x8_3 < (l0_0.length : Int)) = false := decide_eq_false c30
             clear c30
             simp only [Option.some.injEq, Prod.mk.injEq] at H
             obtain ⟨rfl, rfl⟩ := H
             have hcz61_0 : wr.cell? ⟨gb255, 0, none⟩ = some (.slice A0_0 l0_0.length c0_0) := (blk_cell BK255.out 0).trans rfl
             have hcz61_1 : wr.cell? ⟨gb255, 1, none⟩ = some (.slice A0_1 l0_1.length c0_1) := (blk_cell BK255.out 1).trans rfl
             have hcz61_2 : wr.cell? ⟨gb255, 2, none⟩ = some (.slice A0_2 l0_2.length c0_2) := (blk_cell BK255.out 2).trans rfl
             have hcz61_3 : wr.cell? ⟨gb255, 3, none⟩ = some (.int .i64 a0_3) := (blk_cell BK255.out 3).trans rfl
             have hfz61_0 := blk_frozen BK255.out 0
             have hfz61_1 := blk_frozen BK255.out 1
             have hfz61_2 := blk_frozen BK255.out 2
             have hfz61_3 := blk_frozen BK255.out 3
             go_wp2
             go_ret2
             exact ⟨_, by first | rfl | (simp [errW_none, errW_some] <;> rfl) | (simp [*, errW_none, errW_some] <;> rfl), by (with_reducible repeat (first | apply Kd.R_alloc | apply Kd.R_drewN | apply Kd.R_drew)); exact HO_5.out, by repeat (first | (with_reducible first | exact HB.out | apply below_alloc | apply pw_below_drewN | apply below_drew1 | refine below_set ?_ GE255.out) | exact HB.out)⟩
         ·rw [if_neg c27] at H
          exact absurd H (by simp)
     ·rw [if_neg c16] at H
      exact absurd H (by simp)
 ·replace c3 := Bool.eq_false_iff.mpr c3
  subst c3
  have H1 : (some (([] : List Int), 1)) = some (r1, r2) := by rw [if_neg (show ¬ (false = true) by decide)] at H; exact H
  clear H
  have H := H1
  clear H1
  simp only [Option.some.injEq, Prod.mk.injEq] at H
  obtain ⟨rfl, rfl⟩ := H
  go_enter Try.func11, Try.ntmps11
  go_wp2_with (first | ((with_reducible refine gate_dst (N := 1) rfl ?_); refine box_event ?hg (N := 1) ?hd (cs := #[.slice A0_0 l0_0.length c0_0, .slice A0_1 l0_1.length c0_1, .slice A0_2 l0_2.length c0_2, .int .i64 a0_3]) (t := 26) ?hr ?_; (case hd => rfl); (case hg => rfl); (case hr => first | (go_simp; done) | (go_simp; rfl)); intro gb255 hg w62 hbox hb; have n0_ := Aside0.mk (below_step (by repeat (first | (with_reducible first | exact HB.out | apply below_alloc | apply pw_below_drewN | apply below_drew1) | exact HB.out)) hb); have n1_ := Aside0.mk (hbox); have n2_ := Aside0.mk ((by rw [hg]; exact (below_size (by repeat (first | (with_reducible first | exact HB.out | apply below_alloc | apply pw_below_drewN | apply below_drew1) | exact HB.out))) : w.heap.size ≤ gb255)); have n3_ := Aside0.mk ((by rw [hg]; exact (below_size (by repeat (first | (with_reducible first | exact HB.out | apply below_alloc | apply pw_below_drewN | apply below_drew1) | exact HB.out))) : w.heap.size ≤ gb255)); clear HB; have HB := n0_; have BK255 := n1_; have GW255 := n2_; have GE255 := n3_; clear n0_ n1_ n2_ n3_; clear hb hbox hg; have hcz63_0 : w62.cell? ⟨gb255, 0, none⟩ = some (.slice A0_0 l0_0.length c0_0) := (blk_cell BK255.out 0).trans rfl; have hcz63_1 : w62.cell? ⟨gb255, 1, none⟩ = some (.slice A0_1 l0_1.length c0_1) := (blk_cell BK255.out 1).trans rfl; have hcz63_2 : w62.cell? ⟨gb255, 2, none⟩ = some (.slice A0_2 l0_2.length c0_2) := (blk_cell BK255.out 2).trans rfl; have hcz63_3 : w62.cell? ⟨gb255, 3, none⟩ = some (.int .i64 a0_3) := (blk_cell BK255.out 3).trans rfl; have hfz63_0 := blk_frozen BK255.out 0; have hfz63_1 := blk_frozen BK255.out 1; have hfz63_2 := blk_frozen BK255.out 2; have hfz63_3 := blk_frozen BK255.out 3) | ((with_reducible refine gate_callee (f := 14) rfl ?_); refine goesL_ (some 12) rfl rfl Try.func14 (by kernel_rfl) rfl #[.agg #[.slice A0_0 l0_0.length c0_0, .slice A0_1 l0_1.length c0_1, .slice A0_2 l0_2.length c0_2, .int .i64 a0_3]] rfl (by (try simp only [List.map_toArray, List.map_cons, List.map_nil]); first | done | rfl | (simp only [List.length_drop, List.length_take]; rfl)) ?_; (with_reducible refine (selvageref13_May.calls k _ _ l0_0 _ _ l0_1 _ _ l0_2 a0_3 false _ ?side1 ?side2 ?side3 ?side4 ?side5 ?side6 A2.out).mono ?_); (case side1 => repeat (first | exact (Kd.C_below HR0_0.out HB.out) | (with_reducible refine Kd.C_alloc ?_ _) | (with_reducible refine Kd.C_drewN ?_ _) | (with_reducible refine Kd.C_drew ?_))); (case side2 => exact HC0_0.out); (case side3 => repeat (first | exact (Kd.C_below HR0_1.out HB.out) | (with_reducible refine Kd.C_alloc ?_ _) | (with_reducible refine Kd.C_drewN ?_ _) | (with_reducible refine Kd.C_drew ?_))); (case side4 => exact HC0_1.out); (case side5 => repeat (first | exact (Kd.C_below HR0_2.out HB.out) | (with_reducible refine Kd.C_alloc ?_ _) | (with_reducible refine Kd.C_drewN ?_ _) | (with_reducible refine Kd.C_drew ?_))); (case side6 => exact HC0_2.out); rintro e w64 ⟨rfl, hb⟩; refine ⟨_, rfl, ?_⟩; have n0_ := Aside0.mk (blk_below (g := gb255) (o := .cells #[.slice A0_0 l0_0.length c0_0, .slice A0_1 l0_1.length c0_1, .slice A0_2 l0_2.length c0_2, .int .i64 a0_3] 26 (0, 0)) (by (with_reducible repeat (first | refine blk_drewN ?_ _ | refine blk_drew ?_ | refine blk_alloc ?_ _)); exact BK255.out) hb); have n1_ := Aside0.mk (below_step (by repeat (first | (with_reducible first | exact HB.out | apply below_alloc | apply pw_below_drewN | apply below_drew1 | refine below_set ?_ GE255.out) | exact HB.out)) hb); clear BK255; clear HB; have BK255 := n0_; have HB := n1_; clear n0_ n1_; (try clear hb); (try clear hb2); (try clear hk); (try clear hi)))
  go_ret2
  exact ⟨_, by first | rfl | (simp [errW_none, errW_some] <;> rfl) | (simp [*, errW_none, errW_some] <;> rfl), by first | exact Kd.R_nil _ _ _ _ _ | exact Kd.N_nil _ _ _ _ _ | exact Kd.V_nil _ _ _ _ _ | exact Kd.Q_nil _ _ _ _ _ | exact Kd.S_nil _ _ _ _ _, by repeat (first | (with_reducible first | exact HB.out | apply below_alloc | apply pw_below_drewN | apply below_drew1 | refine below_set ?_ GE255.out) | exact HB.out)⟩

end Go.Proofs.Ytadbiogchgglpaa.Q
