-- PRINTED by print.py (a twelfth state) out of the translation. Not trusted: Lean checks it.
import Derived.Test.YtadbiogchgglpaaQx0
import Derived.Test.YtadbiogchgglpaaQx9
import Derived.Test.YtadbiogchgglpaaQx17
import Derived.Test.YtadbiogchgglpaaQx19
namespace Go.Proofs.Ytadbiogchgglpaa.Q
open Go.RowKit Go.Proofs.YtadbiogchgglpaaW.PrintWords Go.Proofs.YtadbiogchgglpaaW.PrintLast Go.Proofs.YtadbiogchgglpaaW.PrintMore
attribute [local go_sem] max2_int min2_int max_two min_two max_three min_three max_four min_four   -- for this text's walks alone
set_option linter.unusedVariables false
set_option linter.unusedSimpArgs false

/-! ### selvagelaw13_CodeSizes: function 5 -/
mutual
def selvagelaw13_CodeSizes.l0 : Nat → Int → Int → Int → Int → Int → List Int → Int → Option (Bool)
  | 0, _, _, _, _, _, _, _ => none
  | k + 1, x9, x10, x11, x12, x14, x347001, x347003 => if x14 < x10 then (if x347001.length < 17592186044416 then (selvagelaw13_CodeSizes.l0 k x9 x10 x11 x12 (wrap64 (x14 + 1)) (x347001 ++ [x14]) x347003) else (none)) else (selvagelaw13_CodeSizes.l1 k x9 x10 x11 x12 0 x347001 ([] : List ByteArray) x347003)
def selvagelaw13_CodeSizes.l1 : Nat → Int → Int → Int → Int → Int → List Int → List ByteArray → Int → Option (Bool)
  | 0, _, _, _, _, _, _, _, _ => none
  | k + 1, x9, x10, x11, x12, x15, x347001, x347002, x347003 => if x15 < x11 then (if x347002.length < 8796093022208 then (selvagelaw13_CodeSizes.l1 k x9 x10 x11 x12 (wrap64 (x15 + 1)) x347001 (x347002 ++ [(⟨#[]⟩ : ByteArray)]) x347003) else (none)) else (selvagelaw13_CodeSizes.l2 k x9 x10 x11 x12 0 x347001 x347002 x347003 0 0 1 ([] : List (S42)))
def selvagelaw13_CodeSizes.l2 : Nat → Int → Int → Int → Int → Int → List Int → List ByteArray → Int → Int → Int → Int → List (S42) → Option (Bool)
  | 0, _, _, _, _, _, _, _, _, _, _, _, _ => none
  | k + 1, x9, x10, x11, x12, x17, x347001, x347002, x347003, x354000, x354001, x354002, x354003 => if x17 < x12 then (if x354003.length < 5864062014805 then (selvagelaw13_CodeSizes.l2 k x9 x10 x11 x12 (wrap64 (x17 + 1)) x347001 x347002 x347003 x354000 x354001 x354002 (x354003 ++ [(⟨9, 0, 0⟩ : S42)])) else (none)) else (selvagelaw13_CodeSizes.l3 k x9 x10 x11 x12 0 ([] : List (S40)) x347001 x347002 x347003 x354000 x354001 x354002 x354003)
def selvagelaw13_CodeSizes.l3 : Nat → Int → Int → Int → Int → Int → List (S40) → List Int → List ByteArray → Int → Int → Int → Int → List (S42) → Option (Bool)
  | 0, _, _, _, _, _, _, _, _, _, _, _, _, _ => none
  | k + 1, x9, x10, x11, x12, x18, x347000, x347001, x347002, x347003, x354000, x354001, x354002, x354003 => if x18 < x9 then (if x347000.length < 2932031007402 then (selvagelaw13_CodeSizes.l3 k x9 x10 x11 x12 (wrap64 (x18 + 1)) (x347000 ++ [(⟨x354000, x354001, x354002, x354003⟩ : S40)]) x347001 x347002 x347003 x354000 x354001 x354002 x354003) else (none)) else (if x9 ≥ 1 then (if x9 ≤ 120 then (if x10 ≤ 120 then (if x11 ≤ 120 then (if x12 ≥ 1 then ((code_May.f k x347000 x347001 x347002 x347003).bind fun t360 => (if (t360 == (decide (x12 ≤ 400))) = true then ((selvagelaw13_lives.f k).bind fun t361 => (some t361)) else (some false))) else ((code_May.f k x347000 x347001 x347002 x347003).bind fun t362 => (if (t362 == false) = true then ((selvagelaw13_lives.f k).bind fun t363 => (some t363)) else (some false)))) else ((code_May.f k x347000 x347001 x347002 x347003).bind fun t364 => (if (t364 == false) = true then ((selvagelaw13_lives.f k).bind fun t365 => (some t365)) else (some false)))) else ((code_May.f k x347000 x347001 x347002 x347003).bind fun t366 => (if (t366 == false) = true then ((selvagelaw13_lives.f k).bind fun t367 => (some t367)) else (some false)))) else ((code_May.f k x347000 x347001 x347002 x347003).bind fun t368 => (if (t368 == false) = true then ((selvagelaw13_lives.f k).bind fun t369 => (some t369)) else (some false)))) else ((code_May.f k x347000 x347001 x347002 x347003).bind fun t370 => (if (t370 == false) = true then ((selvagelaw13_lives.f k).bind fun t371 => (some t371)) else (some false))))
end
def selvagelaw13_CodeSizes.f (k : Nat) (a0 : Int) (a1 : Int) (a2 : Int) (a3 : Int) : Option (Bool) := (selvagelaw13_size.f a0 130).bind fun t342 => ((selvagelaw13_size.f a1 130).bind fun t343 => ((selvagelaw13_size.f a2 130).bind fun t344 => ((selvagelaw13_size.f a3 450).bind fun t345 => (selvagelaw13_CodeSizes.l0 k t342 t343 t344 t345 0 ([] : List Int) 0))))
theorem selvagelaw13_CodeSizes.mono_l : ∀ k, (∀ y0 y1 y2 y3 y4 y5 y6, LeO (selvagelaw13_CodeSizes.l0 k y0 y1 y2 y3 y4 y5 y6) (selvagelaw13_CodeSizes.l0 (k + 1) y0 y1 y2 y3 y4 y5 y6)) ∧ (∀ y0 y1 y2 y3 y4 y5 y6 y7, LeO (selvagelaw13_CodeSizes.l1 k y0 y1 y2 y3 y4 y5 y6 y7) (selvagelaw13_CodeSizes.l1 (k + 1) y0 y1 y2 y3 y4 y5 y6 y7)) ∧ (∀ y0 y1 y2 y3 y4 y5 y6 y7 y8 y9 y10 y11, LeO (selvagelaw13_CodeSizes.l2 k y0 y1 y2 y3 y4 y5 y6 y7 y8 y9 y10 y11) (selvagelaw13_CodeSizes.l2 (k + 1) y0 y1 y2 y3 y4 y5 y6 y7 y8 y9 y10 y11)) ∧ (∀ y0 y1 y2 y3 y4 y5 y6 y7 y8 y9 y10 y11 y12, LeO (selvagelaw13_CodeSizes.l3 k y0 y1 y2 y3 y4 y5 y6 y7 y8 y9 y10 y11 y12) (selvagelaw13_CodeSizes.l3 (k + 1) y0 y1 y2 y3 y4 y5 y6 y7 y8 y9 y10 y11 y12))
  | 0 => ⟨fun _ _ _ _ _ _ _ r h => by simp [selvagelaw13_CodeSizes.l0] at h, fun _ _ _ _ _ _ _ _ r h => by simp [selvagelaw13_CodeSizes.l1] at h, fun _ _ _ _ _ _ _ _ _ _ _ _ r h => by simp [selvagelaw13_CodeSizes.l2] at h, fun _ _ _ _ _ _ _ _ _ _ _ _ _ r h => by simp [selvagelaw13_CodeSizes.l3] at h⟩
  | k + 1 => by
    obtain ⟨ih0, ih1, ih2, ih3⟩ := selvagelaw13_CodeSizes.mono_l k
    refine ⟨?_, ?_, ?_, ?_⟩
    · intro y0 y1 y2 y3 y4 y5 y6
      unfold selvagelaw13_CodeSizes.l0
      repeat' first
      | (with_reducible exact ih0 _ _ _ _ _ _ _)
      | (with_reducible exact ih1 _ _ _ _ _ _ _ _)
      | (with_reducible exact ih2 _ _ _ _ _ _ _ _ _ _ _ _)
      | (with_reducible exact ih3 _ _ _ _ _ _ _ _ _ _ _ _ _)
      | (with_reducible exact code_May.mono _ _ _ _ _)
      | (with_reducible exact selvagelaw13_lives.mono _)
      | (with_reducible exact LeO.refl _)
      | (with_reducible exact LeO.none _)
      | (with_reducible refine LeO.ite ?_ ?_)
      | (with_reducible refine LeO.bind ?_ (fun _ => ?_))
      | exact ih0 _ _ _ _ _ _ _
      | exact ih1 _ _ _ _ _ _ _ _
      | exact ih2 _ _ _ _ _ _ _ _ _ _ _ _
      | exact ih3 _ _ _ _ _ _ _ _ _ _ _ _ _
      | exact code_May.mono _ _ _ _ _
      | exact selvagelaw13_lives.mono _
      | exact LeO.none _
      | refine LeO.ite ?_ ?_
      | refine LeO.bind ?_ (fun _ => ?_)
    · intro y0 y1 y2 y3 y4 y5 y6 y7
      unfold selvagelaw13_CodeSizes.l1
      repeat' first
      | (with_reducible exact ih0 _ _ _ _ _ _ _)
      | (with_reducible exact ih1 _ _ _ _ _ _ _ _)
      | (with_reducible exact ih2 _ _ _ _ _ _ _ _ _ _ _ _)
      | (with_reducible exact ih3 _ _ _ _ _ _ _ _ _ _ _ _ _)
      | (with_reducible exact code_May.mono _ _ _ _ _)
      | (with_reducible exact selvagelaw13_lives.mono _)
      | (with_reducible exact LeO.refl _)
      | (with_reducible exact LeO.none _)
      | (with_reducible refine LeO.ite ?_ ?_)
      | (with_reducible refine LeO.bind ?_ (fun _ => ?_))
      | exact ih0 _ _ _ _ _ _ _
      | exact ih1 _ _ _ _ _ _ _ _
      | exact ih2 _ _ _ _ _ _ _ _ _ _ _ _
      | exact ih3 _ _ _ _ _ _ _ _ _ _ _ _ _
      | exact code_May.mono _ _ _ _ _
      | exact selvagelaw13_lives.mono _
      | exact LeO.none _
      | refine LeO.ite ?_ ?_
      | refine LeO.bind ?_ (fun _ => ?_)
    · intro y0 y1 y2 y3 y4 y5 y6 y7 y8 y9 y10 y11
      unfold selvagelaw13_CodeSizes.l2
      repeat' first
      | (with_reducible exact ih0 _ _ _ _ _ _ _)
      | (with_reducible exact ih1 _ _ _ _ _ _ _ _)
      | (with_reducible exact ih2 _ _ _ _ _ _ _ _ _ _ _ _)
      | (with_reducible exact ih3 _ _ _ _ _ _ _ _ _ _ _ _ _)
      | (with_reducible exact code_May.mono _ _ _ _ _)
      | (with_reducible exact selvagelaw13_lives.mono _)
      | (with_reducible exact LeO.refl _)
      | (with_reducible exact LeO.none _)
      | (with_reducible refine LeO.ite ?_ ?_)
      | (with_reducible refine LeO.bind ?_ (fun _ => ?_))
      | exact ih0 _ _ _ _ _ _ _
      | exact ih1 _ _ _ _ _ _ _ _
      | exact ih2 _ _ _ _ _ _ _ _ _ _ _ _
      | exact ih3 _ _ _ _ _ _ _ _ _ _ _ _ _
      | exact code_May.mono _ _ _ _ _
      | exact selvagelaw13_lives.mono _
      | exact LeO.none _
      | refine LeO.ite ?_ ?_
      | refine LeO.bind ?_ (fun _ => ?_)
    · intro y0 y1 y2 y3 y4 y5 y6 y7 y8 y9 y10 y11 y12
      unfold selvagelaw13_CodeSizes.l3
      repeat' first
      | (with_reducible exact ih0 _ _ _ _ _ _ _)
      | (with_reducible exact ih1 _ _ _ _ _ _ _ _)
      | (with_reducible exact ih2 _ _ _ _ _ _ _ _ _ _ _ _)
      | (with_reducible exact ih3 _ _ _ _ _ _ _ _ _ _ _ _ _)
      | (with_reducible exact code_May.mono _ _ _ _ _)
      | (with_reducible exact selvagelaw13_lives.mono _)
      | (with_reducible exact LeO.refl _)
      | (with_reducible exact LeO.none _)
      | (with_reducible refine LeO.ite ?_ ?_)
      | (with_reducible refine LeO.bind ?_ (fun _ => ?_))
      | exact ih0 _ _ _ _ _ _ _
      | exact ih1 _ _ _ _ _ _ _ _
      | exact ih2 _ _ _ _ _ _ _ _ _ _ _ _
      | exact ih3 _ _ _ _ _ _ _ _ _ _ _ _ _
      | exact code_May.mono _ _ _ _ _
      | exact selvagelaw13_lives.mono _
      | exact LeO.none _
      | refine LeO.ite ?_ ?_
      | refine LeO.bind ?_ (fun _ => ?_)
theorem selvagelaw13_CodeSizes.mono : ∀ a0 a1 a2 a3 k, LeO (selvagelaw13_CodeSizes.f k a0 a1 a2 a3) (selvagelaw13_CodeSizes.f (k + 1) a0 a1 a2 a3) := by
  intro a0 a1 a2 a3 k
  obtain ⟨ih0, ih1, ih2, ih3⟩ := selvagelaw13_CodeSizes.mono_l k
  unfold selvagelaw13_CodeSizes.f
  repeat' first
      | (with_reducible exact ih0 _ _ _ _ _ _ _)
      | (with_reducible exact ih1 _ _ _ _ _ _ _ _)
      | (with_reducible exact ih2 _ _ _ _ _ _ _ _ _ _ _ _)
      | (with_reducible exact ih3 _ _ _ _ _ _ _ _ _ _ _ _ _)
      | (with_reducible exact code_May.mono _ _ _ _ _)
      | (with_reducible exact selvagelaw13_lives.mono _)
      | (with_reducible exact LeO.refl _)
      | (with_reducible exact LeO.none _)
      | (with_reducible refine LeO.ite ?_ ?_)
      | (with_reducible refine LeO.bind ?_ (fun _ => ?_))
      | exact ih0 _ _ _ _ _ _ _
      | exact ih1 _ _ _ _ _ _ _ _
      | exact ih2 _ _ _ _ _ _ _ _ _ _ _ _
      | exact ih3 _ _ _ _ _ _ _ _ _ _ _ _ _
      | exact code_May.mono _ _ _ _ _
      | exact selvagelaw13_lives.mono _
      | exact LeO.none _
      | refine LeO.ite ?_ ?_
      | refine LeO.bind ?_ (fun _ => ?_)
set_option maxHeartbeats 8000000 in
set_option maxRecDepth 100000 in
theorem selvagelaw13_CodeSizes.calls (k : Nat) (a0 : Int) (a1 : Int) (a2 : Int) (a3 : Int) (r : Bool) (w : World) (h : selvagelaw13_CodeSizes.f k a0 a1 a2 a3 = some r) :
    Calls Try.prog 5 #[.int .i64 a0, .int .i64 a1, .int .i64 a2, .int .i64 a3] w fun e w' => e = .returned (.bool r) ∧ Below w.heap.size w w' := by
  have hu26 := Try.underlying26
  have hu40 := Try.underlying40
  have hu42 := Try.underlying42
  have HB := Aside0.mk (Below.refl w.heap.size w)
  have H : ((selvagelaw13_size.f a0 130).bind fun t342 => ((selvagelaw13_size.f a1 130).bind fun t343 => ((selvagelaw13_size.f a2 130).bind fun t344 => ((selvagelaw13_size.f a3 450).bind fun t345 => (selvagelaw13_CodeSizes.l0 k t342 t343 t344 t345 0 ([] : List Int) 0))))) = some r := h
  clear h
  replace H := Option.bind_eq_some_iff.mp H
  obtain ⟨t342, A50, H⟩ := H
  replace H : ((selvagelaw13_size.f a1 130).bind fun t343 => ((selvagelaw13_size.f a2 130).bind fun t344 => ((selvagelaw13_size.f a3 450).bind fun t345 => (selvagelaw13_CodeSizes.l0 k t342 t343 t344 t345 0 ([] : List Int) 0)))) = some r := H
  have A5 := Aside0.mk A50
  clear A50
  replace H := Option.bind_eq_some_iff.mp H
  obtain ⟨t343, A60, H⟩ := H
  replace H : ((selvagelaw13_size.f a2 130).bind fun t344 => ((selvagelaw13_size.f a3 450).bind fun t345 => (selvagelaw13_CodeSizes.l0 k t342 t343 t344 t345 0 ([] : List Int) 0))) = some r := H
  have A6 := Aside0.mk A60
  clear A60
  replace H := Option.bind_eq_some_iff.mp H
  obtain ⟨t344, A70, H⟩ := H
  replace H : ((selvagelaw13_size.f a3 450).bind fun t345 => (selvagelaw13_CodeSizes.l0 k t342 t343 t344 t345 0 ([] : List Int) 0)) = some r := H
  have A7 := Aside0.mk A70
  clear A70
  replace H := Option.bind_eq_some_iff.mp H
  obtain ⟨t345, A80, H⟩ := H
  replace H : (selvagelaw13_CodeSizes.l0 k t342 t343 t344 t345 0 ([] : List Int) 0) = some r := H
  have A8 := Aside0.mk A80
  clear A80
  have H' := Aside0.mk H
  clear H
  go_enter Try.func5, Try.ntmps5
  go_wp2_with (first | ((with_reducible refine gate_callee (f := 18) rfl ?_); refine goesL_ (some 21) rfl rfl Try.func18 (by kernel_rfl) rfl #[.int .i64 a0, .int .i64 130] rfl (by (try simp only [List.map_toArray, List.map_cons, List.map_nil]); first | done | rfl | (simp only [List.length_drop, List.length_take]; rfl)) ?_; (with_reducible refine (selvagelaw13_size.calls a0 130 t342 _ A5.out).mono ?_); rintro e w' ⟨rfl, ⟨nd, rfl⟩⟩; refine ⟨_, rfl, ?_⟩) | ((with_reducible refine gate_callee (f := 18) rfl ?_); refine goesL_ (some 23) rfl rfl Try.func18 (by kernel_rfl) rfl #[.int .i64 a1, .int .i64 130] rfl (by (try simp only [List.map_toArray, List.map_cons, List.map_nil]); first | done | rfl | (simp only [List.length_drop, List.length_take]; rfl)) ?_; (with_reducible refine (selvagelaw13_size.calls a1 130 t343 _ A6.out).mono ?_); rintro e w' ⟨rfl, ⟨nd, rfl⟩⟩; refine ⟨_, rfl, ?_⟩) | ((with_reducible refine gate_callee (f := 18) rfl ?_); refine goesL_ (some 25) rfl rfl Try.func18 (by kernel_rfl) rfl #[.int .i64 a2, .int .i64 130] rfl (by (try simp only [List.map_toArray, List.map_cons, List.map_nil]); first | done | rfl | (simp only [List.length_drop, List.length_take]; rfl)) ?_; (with_reducible refine (selvagelaw13_size.calls a2 130 t344 _ A7.out).mono ?_); rintro e w' ⟨rfl, ⟨nd, rfl⟩⟩; refine ⟨_, rfl, ?_⟩) | ((with_reducible refine gate_callee (f := 18) rfl ?_); refine goesL_ (some 27) rfl rfl Try.func18 (by kernel_rfl) rfl #[.int .i64 a3, .int .i64 450] rfl (by (try simp only [List.map_toArray, List.map_cons, List.map_nil]); first | done | rfl | (simp only [List.length_drop, List.length_take]; rfl)) ?_; (with_reducible refine (selvagelaw13_size.calls a3 450 t345 _ A8.out).mono ?_); rintro e w' ⟨rfl, ⟨nd, rfl⟩⟩; refine ⟨_, rfl, ?_⟩) | ((with_reducible refine gate_dst (N := 13) rfl ?_); refine box_event ?hg (N := 13) ?hd (cs := #[.slice none 0 0, .slice none 0 0, .slice none 0 0, .int .i64 0]) (t := 26) ?hr ?_; (case hd => rfl); (case hg => rfl); (case hr => first | (go_simp; done) | (go_simp; rfl)); intro gb346 hg w9 hbox hb; have n0_ := Aside0.mk (below_step (by repeat (first | (with_reducible first | exact HB.out | apply below_alloc | apply pw_below_drewN | apply below_drew1) | exact HB.out)) hb); have n1_ := Aside0.mk (hbox); have n2_ := Aside0.mk ((by rw [hg]; exact (below_size (by repeat (first | (with_reducible first | exact HB.out | apply below_alloc | apply pw_below_drewN | apply below_drew1) | exact HB.out))) : w.heap.size ≤ gb346)); have n3_ := Aside0.mk ((by rw [hg]; exact (below_size (by repeat (first | (with_reducible first | exact HB.out | apply below_alloc | apply pw_below_drewN | apply below_drew1) | exact HB.out))) : w.heap.size ≤ gb346)); clear HB; have HB := n0_; have BK346 := n1_; have GW346 := n2_; have GE346 := n3_; clear n0_ n1_ n2_ n3_; clear hb hbox hg; have hcz10_0 : w9.cell? ⟨gb346, 0, none⟩ = some (.slice none 0 0) := (blk_cell BK346.out 0).trans rfl; have hcz10_1 : w9.cell? ⟨gb346, 1, none⟩ = some (.slice none 0 0) := (blk_cell BK346.out 1).trans rfl; have hcz10_2 : w9.cell? ⟨gb346, 2, none⟩ = some (.slice none 0 0) := (blk_cell BK346.out 2).trans rfl; have hcz10_3 : w9.cell? ⟨gb346, 3, none⟩ = some (.int .i64 0) := (blk_cell BK346.out 3).trans rfl; have hfz10_0 := blk_frozen BK346.out 0; have hfz10_1 := blk_frozen BK346.out 1; have hfz10_2 := blk_frozen BK346.out 2; have hfz10_3 := blk_frozen BK346.out 3))
  go_loopg [14] k (fun kq v14 w' => ∃ (x14_1 : Int) (x347001_1 : List Int) (u347001 : Value), v14 = .int .i64 x14_1 ∧ Aside0 (selvagelaw13_CodeSizes.l0 kq t342 t343 t344 t345 x14_1 x347001_1 0 = some r) ∧ Aside0 (kq ≤ k) ∧ Aside0 (Kd.R (Kd.int .i64) 3 w' w.heap.size (fun _ => True) u347001 x347001_1) ∧ Aside0 (w'.heap[gb346]? = some (.cells #[(.slice none 0 0), u347001, (.slice none 0 0), .int .i64 0] 26 (0, 0))) ∧ Aside0 (Below w.heap.size w w'))
  case atStart => exact ⟨(0), (([] : List Int)), (.slice none 0 0), (by first | rfl | (simp; done) | (simp [*]; done)), H', ⟨Nat.le_refl _⟩, ⟨by first | exact Kd.R_nil _ _ _ _ _ | exact Kd.N_nil _ _ _ _ _ | exact Kd.V_nil _ _ _ _ _ | exact Kd.Q_nil _ _ _ _ _ | exact Kd.S_nil _ _ _ _ _⟩, ⟨by (with_reducible repeat (first | refine blk_drewN ?_ _ | refine blk_drew ?_ | refine blk_alloc ?_ _)); refine blk_put (cs := #[.slice none 0 0, .slice none 0 0, .slice none 0 0, .int .i64 0]) ?_ 3 _ rfl; (with_reducible repeat (first | refine blk_drewN ?_ _ | refine blk_drew ?_ | refine blk_alloc ?_ _)); refine blk_put (cs := #[.slice none 0 0, .slice none 0 0, .slice none 0 0, .int .i64 0]) ?_ 2 _ rfl; (with_reducible repeat (first | refine blk_drewN ?_ _ | refine blk_drew ?_ | refine blk_alloc ?_ _)); refine blk_put (cs := #[.slice none 0 0, .slice none 0 0, .slice none 0 0, .int .i64 0]) ?_ 1 _ rfl; (with_reducible repeat (first | refine blk_drewN ?_ _ | refine blk_drew ?_ | refine blk_alloc ?_ _)); refine blk_put (cs := #[.slice none 0 0, .slice none 0 0, .slice none 0 0, .int .i64 0]) ?_ 0 _ rfl; (with_reducible repeat (first | refine blk_drewN ?_ _ | refine blk_drew ?_ | refine blk_alloc ?_ _)); exact BK346.out⟩, ⟨by repeat (first | (with_reducible first | exact HB.out | apply below_alloc | apply pw_below_drewN | apply below_drew1 | refine below_set ?_ GE346.out) | exact HB.out)⟩⟩
  case round =>
    clear H'
    try clear c1
    try clear p2
    try clear c5
    try clear hcz10_0
    try clear hcz10_1
    try clear hcz10_2
    try clear hcz10_3
    try clear hfz10_0
    try clear hfz10_1
    try clear hfz10_2
    try clear hfz10_3
    obtain ⟨x14_1, x347001_1, u347001, rfl, HA, HK1, HO_347001, BK346, HB⟩ := hrel
    cases gk with
    | zero => exact absurd HA.out (by simp [selvagelaw13_CodeSizes.l0])
    | succ k1 =>
      have H := HA.out
      clear HA
      simp only [selvagelaw13_CodeSizes.l0] at H
      by_cases c11 : x14_1 < t343
      · rw [if_pos c11] at H
        have c11b0 : decide (x14_1 < t343) = true := decide_eq_true c11
        clear c11
        by_cases c12 : x347001_1.length < 17592186044416
        · rw [if_pos c12] at H
          have LMc12 := Aside0.mk c12
          clear c12
          obtain ⟨y347, hy347⟩ : ∃ y_ : List Int, y_ = (x347001_1 ++ [x14_1]) := ⟨_, rfl⟩
          replace H : (selvagelaw13_CodeSizes.l0 k1 t342 t343 t344 t345 (wrap64 (x14_1 + 1)) y347 0) = some r := by first | (rw [hy347]; with_reducible exact H) | (have H2_ := (Option.bind_some _ _).symm.trans H; rw [hy347]; with_reducible exact H2_) | (have H2_ := (Option.bind_some _ _).symm.trans H; with_reducible exact H2_) | with_reducible exact H | (rw [hy347]; exact H) | exact H
          have Ny347 := Aside0.mk hy347
          clear hy347
          have H' := Aside0.mk H
          clear H
          have hcz13_0 : wr.cell? ⟨gb346, 0, none⟩ = some (.slice none 0 0) := (blk_cell BK346.out 0).trans rfl
          have hcz13_1 : wr.cell? ⟨gb346, 1, none⟩ = some (u347001) := (blk_cell BK346.out 1).trans rfl
          have hcz13_2 : wr.cell? ⟨gb346, 2, none⟩ = some (.slice none 0 0) := (blk_cell BK346.out 2).trans rfl
          have hcz13_3 : wr.cell? ⟨gb346, 3, none⟩ = some (.int .i64 0) := (blk_cell BK346.out 3).trans rfl
          have hfz13_0 := blk_frozen BK346.out 0
          have hfz13_1 := blk_frozen BK346.out 1
          have hfz13_2 := blk_frozen BK346.out 2
          have hfz13_3 := blk_frozen BK346.out 3
          go_wp2_with (first | ((with_reducible refine gate_builtin (b := .append) (xs := #[.tmp 35, .tmp 37]) rfl ?_); at_builtin; refine Kd.R_append (Kd.int .i64) (w0 := w) w.heap.size rfl (.tmp 35) (.tmp 37) 23 3 (.int .i64 0) 8 rfl Try.underlying23 info3 rfl (by decide) (by omega) u347001 x347001_1 x14_1 [.int .i64 x14_1] (fun _ => True) (fun _ => False) rfl rfl ?aP (fun _ hk => hk.elim) ?aF ?aO ?aB ?aS ?aL ?_; (case aP => exact rfl); (case aB => exact (by repeat (first | (with_reducible first | exact HB.out | apply below_alloc | apply pw_below_drewN | apply below_drew1 | refine below_set ?_ GE346.out) | exact HB.out))); (case aF => exact (fun _ _ => trivial)); (case aO => exact (by (with_reducible repeat (first | apply Kd.R_alloc | apply Kd.R_drewN | apply Kd.R_drew)); exact HO_347001.out)); (case aS => exact (below_size (by repeat (first | (with_reducible first | exact HB.out | apply below_alloc | apply pw_below_drewN | apply below_drew1 | refine below_set ?_ GE346.out) | exact HB.out)))); (case aL => have := LMc12.out; omega); intro v348 w14 ho hb hg hat; rw [← Ny347.out] at ho; have n0_ := Aside0.mk (blk_grown (g := gb346) (o := .cells #[.slice none 0 0, u347001, .slice none 0 0, .int .i64 0] 26 (0, 0)) (by (with_reducible repeat (first | refine blk_drewN ?_ _ | refine blk_drew ?_ | refine blk_alloc ?_ _)); exact BK346.out) hg (Kd.R_ne HO_347001.out BK346.out (by decide))); have n1_ := Aside0.mk (hb); have n2_ := Aside0.mk (ho); clear BK346; clear HB; clear HO_347001; have BK346 := n0_; have HB := n1_; have HO349 := n2_; clear n0_ n1_ n2_; clear ho hb hg hat; obtain ⟨Ao15, co15, eo15⟩ := Kd.R_slice HO349.out; subst eo15; have hcz16_0 : w14.cell? ⟨gb346, 0, none⟩ = some (.slice none 0 0) := (blk_cell BK346.out 0).trans rfl; have hcz16_1 : w14.cell? ⟨gb346, 1, none⟩ = some (u347001) := (blk_cell BK346.out 1).trans rfl; have hcz16_2 : w14.cell? ⟨gb346, 2, none⟩ = some (.slice none 0 0) := (blk_cell BK346.out 2).trans rfl; have hcz16_3 : w14.cell? ⟨gb346, 3, none⟩ = some (.int .i64 0) := (blk_cell BK346.out 3).trans rfl; have hfz16_0 := blk_frozen BK346.out 0; have hfz16_1 := blk_frozen BK346.out 1; have hfz16_2 := blk_frozen BK346.out 2; have hfz16_3 := blk_frozen BK346.out 3))
          go_roundg k1
          case measure => have := HK1.out; omega
          case rel => exact ⟨(wrap64 (x14_1 + 1)), (y347), (.slice Ao15 y347.length co15), (by first | rfl | (simp; done) | (simp [*]; done)), H', ⟨by have := HK1.out; omega⟩, ⟨by (with_reducible repeat (first | apply Kd.R_alloc | apply Kd.R_drewN | apply Kd.R_drew)); exact Kd.R_mono (Kd.R_far (p := ⟨gb346, 1, none⟩) (Kd.R_types HO349.out BK346.out (by decide)) (fun _ hk => hk.2) (.slice Ao15 y347.length co15)) (fun _ hk => trivial)⟩, ⟨by (with_reducible repeat (first | refine blk_drewN ?_ _ | refine blk_drew ?_ | refine blk_alloc ?_ _)); refine blk_put (cs := #[.slice none 0 0, u347001, .slice none 0 0, .int .i64 0]) ?_ 1 _ rfl; (with_reducible repeat (first | refine blk_drewN ?_ _ | refine blk_drew ?_ | refine blk_alloc ?_ _)); exact BK346.out⟩, ⟨by repeat (first | (with_reducible first | exact HB.out | apply below_alloc | apply pw_below_drewN | apply below_drew1 | refine below_set ?_ GE346.out) | exact HB.out)⟩⟩
        · rw [if_neg c12] at H
          exact absurd H (by simp)
      · rw [if_neg c11] at H
        have c11b0 : decide (x14_1 < t343) = false := decide_eq_false c11
        clear c11
        have H' := Aside0.mk H
        clear H
        go_wp2
        go_loopg [15] k1 (fun kq v15 w' => ∃ (x15_2 : Int) (x347002_2 : List ByteArray) (u347002 : Value), v15 = .int .i64 x15_2 ∧ Aside0 (selvagelaw13_CodeSizes.l1 kq t342 t343 t344 t345 x15_2 x347001_1 x347002_2 0 = some r) ∧ Aside0 (kq ≤ k1) ∧ Aside0 (Kd.R (Kd.int .i64) 3 w' w.heap.size (fun _ => True) u347001 x347001_1) ∧ Aside0 (Kd.R Kd.string 9 w' w.heap.size (fun _ => True) u347002 x347002_2) ∧ Aside0 (w'.heap[gb346]? = some (.cells #[(.slice none 0 0), u347001, u347002, .int .i64 0] 26 (0, 0))) ∧ Aside0 (Below w.heap.size w w'))
        case atStart => exact ⟨(0), (([] : List ByteArray)), (.slice none 0 0), (by first | rfl | (simp; done) | (simp [*]; done)), H', ⟨Nat.le_refl _⟩, ⟨by (with_reducible repeat (first | apply Kd.R_alloc | apply Kd.R_drewN | apply Kd.R_drew)); exact HO_347001.out⟩, ⟨by first | exact Kd.R_nil _ _ _ _ _ | exact Kd.N_nil _ _ _ _ _ | exact Kd.V_nil _ _ _ _ _ | exact Kd.Q_nil _ _ _ _ _ | exact Kd.S_nil _ _ _ _ _⟩, ⟨by (with_reducible repeat (first | refine blk_drewN ?_ _ | refine blk_drew ?_ | refine blk_alloc ?_ _)); exact BK346.out⟩, ⟨by repeat (first | (with_reducible first | exact HB.out | apply below_alloc | apply pw_below_drewN | apply below_drew1 | refine below_set ?_ GE346.out) | exact HB.out)⟩⟩
        case round =>
          clear H'
          try clear c1
          try clear p2
          try clear c5
          try clear p6
          try clear c11
          try clear c11b0
          try clear c12
          try clear hcz10_0
          try clear hcz10_1
          try clear hcz10_2
          try clear hcz10_3
          try clear hcz13_0
          try clear hcz13_1
          try clear hcz13_2
          try clear hcz13_3
          try clear hcz16_0
          try clear hcz16_1
          try clear hcz16_2
          try clear hcz16_3
          try clear hfz10_0
          try clear hfz10_1
          try clear hfz10_2
          try clear hfz10_3
          try clear hfz13_0
          try clear hfz13_1
          try clear hfz13_2
          try clear hfz13_3
          try clear hfz16_0
          try clear hfz16_1
          try clear hfz16_2
          try clear hfz16_3
          try clear p2
          obtain ⟨x15_2, x347002_2, u347002, rfl, HA, HK2, HO_347001, HO_347002, BK346, HB⟩ := hrel
          cases gk with
          | zero => exact absurd HA.out (by simp [selvagelaw13_CodeSizes.l1])
          | succ k2 =>
            have H := HA.out
            clear HA
            simp only [selvagelaw13_CodeSizes.l1] at H
            by_cases c17 : x15_2 < t344
            · rw [if_pos c17] at H
              have c17b0 : decide (x15_2 < t344) = true := decide_eq_true c17
              clear c17
              by_cases c18 : x347002_2.length < 8796093022208
              · rw [if_pos c18] at H
                have LMc18 := Aside0.mk c18
                clear c18
                obtain ⟨y350, hy350⟩ : ∃ y_ : List ByteArray, y_ = (x347002_2 ++ [(⟨#[]⟩ : ByteArray)]) := ⟨_, rfl⟩
                replace H : (selvagelaw13_CodeSizes.l1 k2 t342 t343 t344 t345 (wrap64 (x15_2 + 1)) x347001_1 y350 0) = some r := by first | (rw [hy350]; with_reducible exact H) | (have H2_ := (Option.bind_some _ _).symm.trans H; rw [hy350]; with_reducible exact H2_) | (have H2_ := (Option.bind_some _ _).symm.trans H; with_reducible exact H2_) | with_reducible exact H | (rw [hy350]; exact H) | exact H
                have Ny350 := Aside0.mk hy350
                clear hy350
                have H' := Aside0.mk H
                clear H
                have hcz19_0 : wr.cell? ⟨gb346, 0, none⟩ = some (.slice none 0 0) := (blk_cell BK346.out 0).trans rfl
                have hcz19_1 : wr.cell? ⟨gb346, 1, none⟩ = some (u347001) := (blk_cell BK346.out 1).trans rfl
                have hcz19_2 : wr.cell? ⟨gb346, 2, none⟩ = some (u347002) := (blk_cell BK346.out 2).trans rfl
                have hcz19_3 : wr.cell? ⟨gb346, 3, none⟩ = some (.int .i64 0) := (blk_cell BK346.out 3).trans rfl
                have hfz19_0 := blk_frozen BK346.out 0
                have hfz19_1 := blk_frozen BK346.out 1
                have hfz19_2 := blk_frozen BK346.out 2
                have hfz19_3 := blk_frozen BK346.out 3
                go_wp2_with (first | ((with_reducible refine gate_builtin (b := .append) (xs := #[.tmp 46, .tmp 47]) rfl ?_); at_builtin; refine Kd.R_append Kd.string (w0 := w) w.heap.size rfl (.tmp 46) (.tmp 47) 24 9 (.string ⟨#[]⟩) 16 rfl Try.underlying24 info9 rfl (by decide) (by omega) u347002 x347002_2 (⟨#[]⟩ : ByteArray) [.string (⟨#[]⟩ : ByteArray)] (fun _ => True) (fun _ => False) rfl rfl ?aP (fun _ hk => hk.elim) ?aF ?aO ?aB ?aS ?aL ?_; (case aP => exact rfl); (case aB => exact (by repeat (first | (with_reducible first | exact HB.out | apply below_alloc | apply pw_below_drewN | apply below_drew1 | refine below_set ?_ GE346.out) | exact HB.out))); (case aF => exact (fun _ _ => trivial)); (case aO => exact (by (with_reducible repeat (first | apply Kd.R_alloc | apply Kd.R_drewN | apply Kd.R_drew)); exact HO_347002.out)); (case aS => exact (below_size (by repeat (first | (with_reducible first | exact HB.out | apply below_alloc | apply pw_below_drewN | apply below_drew1 | refine below_set ?_ GE346.out) | exact HB.out)))); (case aL => have := LMc18.out; omega); intro v351 w20 ho hb hg hat; rw [← Ny350.out] at ho; have n0_ := Aside0.mk (Kd.R_over' (by (with_reducible repeat (first | apply Kd.R_alloc | apply Kd.R_drewN | apply Kd.R_drew)); exact HO_347001.out) (Kd.R_typed (by (with_reducible repeat (first | apply Kd.R_alloc | apply Kd.R_drewN | apply Kd.R_drew)); exact HO_347002.out)) (by decide) hg); have n1_ := Aside0.mk (blk_grown (g := gb346) (o := .cells #[.slice none 0 0, u347001, u347002, .int .i64 0] 26 (0, 0)) (by (with_reducible repeat (first | refine blk_drewN ?_ _ | refine blk_drew ?_ | refine blk_alloc ?_ _)); exact BK346.out) hg (Kd.R_ne HO_347002.out BK346.out (by decide))); have n2_ := Aside0.mk (hb); have n3_ := Aside0.mk (ho); clear HO_347001; clear BK346; clear HB; clear HO_347002; have HO_347001 := n0_; have BK346 := n1_; have HB := n2_; have HO352 := n3_; clear n0_ n1_ n2_ n3_; clear ho hb hg hat; obtain ⟨Ao21, co21, eo21⟩ := Kd.R_slice HO352.out; subst eo21; have hcz22_0 : w20.cell? ⟨gb346, 0, none⟩ = some (.slice none 0 0) := (blk_cell BK346.out 0).trans rfl; have hcz22_1 : w20.cell? ⟨gb346, 1, none⟩ = some (u347001) := (blk_cell BK346.out 1).trans rfl; have hcz22_2 : w20.cell? ⟨gb346, 2, none⟩ = some (u347002) := (blk_cell BK346.out 2).trans rfl; have hcz22_3 : w20.cell? ⟨gb346, 3, none⟩ = some (.int .i64 0) := (blk_cell BK346.out 3).trans rfl; have hfz22_0 := blk_frozen BK346.out 0; have hfz22_1 := blk_frozen BK346.out 1; have hfz22_2 := blk_frozen BK346.out 2; have hfz22_3 := blk_frozen BK346.out 3))
                go_roundg k2
                case measure => have := HK1.out; have := HK2.out; omega
                case rel => exact ⟨(wrap64 (x15_2 + 1)), (y350), (.slice Ao21 y350.length co21), (by first | rfl | (simp; done) | (simp [*]; done)), H', ⟨by have := HK1.out; have := HK2.out; omega⟩, ⟨by (with_reducible repeat (first | apply Kd.R_alloc | apply Kd.R_drewN | apply Kd.R_drew)); exact Kd.R_mono (Kd.R_far (p := ⟨gb346, 2, none⟩) (Kd.R_types HO_347001.out BK346.out (by decide)) (fun _ hk => hk.2) (.slice Ao21 y350.length co21)) (fun _ hk => trivial)⟩, ⟨by (with_reducible repeat (first | apply Kd.R_alloc | apply Kd.R_drewN | apply Kd.R_drew)); exact Kd.R_mono (Kd.R_far (p := ⟨gb346, 2, none⟩) (Kd.R_types HO352.out BK346.out (by decide)) (fun _ hk => hk.2) (.slice Ao21 y350.length co21)) (fun _ hk => trivial)⟩, ⟨by (with_reducible repeat (first | refine blk_drewN ?_ _ | refine blk_drew ?_ | refine blk_alloc ?_ _)); refine blk_put (cs := #[.slice none 0 0, u347001, u347002, .int .i64 0]) ?_ 2 _ rfl; (with_reducible repeat (first | refine blk_drewN ?_ _ | refine blk_drew ?_ | refine blk_alloc ?_ _)); exact BK346.out⟩, ⟨by repeat (first | (with_reducible first | exact HB.out | apply below_alloc | apply pw_below_drewN | apply below_drew1 | refine below_set ?_ GE346.out) | exact HB.out)⟩⟩
              · rw [if_neg c18] at H
                exact absurd H (by simp)
            · rw [if_neg c17] at H
              have c17b0 : decide (x15_2 < t344) = false := decide_eq_false c17
              clear c17
              have H' := Aside0.mk H
              clear H
              go_wp2_with (first | ((with_reducible refine gate_dst (N := 16) rfl ?_); refine box_event ?hg (N := 16) ?hd (cs := #[.int .i64 0, .int .i64 0, .int .i64 0, .slice none 0 0]) (t := 40) ?hr ?_; (case hd => rfl); (case hg => rfl); (case hr => first | (go_simp; done) | (go_simp; rfl)); intro gb353 hg w23 hbox hb; have n0_ := Aside0.mk (Kd.R_below (by (with_reducible repeat (first | apply Kd.R_alloc | apply Kd.R_drewN | apply Kd.R_drew)); exact HO_347001.out) hb); have n1_ := Aside0.mk (Kd.R_below (by (with_reducible repeat (first | apply Kd.R_alloc | apply Kd.R_drewN | apply Kd.R_drew)); exact HO_347002.out) hb); have n2_ := Aside0.mk (blk_below (g := gb346) (o := .cells #[.slice none 0 0, u347001, u347002, .int .i64 0] 26 (0, 0)) (by (with_reducible repeat (first | refine blk_drewN ?_ _ | refine blk_drew ?_ | refine blk_alloc ?_ _)); exact BK346.out) hb); have n3_ := Aside0.mk (below_step (by repeat (first | (with_reducible first | exact HB.out | apply below_alloc | apply pw_below_drewN | apply below_drew1 | refine below_set ?_ GE346.out) | exact HB.out)) hb); have n4_ := Aside0.mk (hbox); have n5_ := Aside0.mk ((by rw [hg]; exact (below_size (by repeat (first | (with_reducible first | exact HB.out | apply below_alloc | apply pw_below_drewN | apply below_drew1 | refine below_set ?_ GE346.out) | exact HB.out))) : w.heap.size ≤ gb353)); have n6_ := Aside0.mk ((by rw [hg]; exact (below_size (by repeat (first | (with_reducible first | exact HB.out | apply below_alloc | apply pw_below_drewN | apply below_drew1 | refine below_set ?_ GE346.out) | exact HB.out))) : w.heap.size ≤ gb353)); have n7_ := Aside0.mk ((by rw [hg]; exact Nat.ne_of_lt (blk_lt (g := gb346) (o := .cells #[.slice none 0 0, u347001, u347002, .int .i64 0] 26 (0, 0)) (by (with_reducible repeat (first | refine blk_drewN ?_ _ | refine blk_drew ?_ | refine blk_alloc ?_ _)); exact BK346.out)) : gb346 ≠ gb353)); have n8_ := Aside0.mk ((by rw [hg]; exact Nat.ne_of_gt (blk_lt (g := gb346) (o := .cells #[.slice none 0 0, u347001, u347002, .int .i64 0] 26 (0, 0)) (by (with_reducible repeat (first | refine blk_drewN ?_ _ | refine blk_drew ?_ | refine blk_alloc ?_ _)); exact BK346.out)) : gb353 ≠ gb346)); clear HO_347001; clear HO_347002; clear BK346; clear HB; have HO_347001 := n0_; have HO_347002 := n1_; have BK346 := n2_; have HB := n3_; have BK353 := n4_; have GW353 := n5_; have GE353 := n6_; have NB346_353 := n7_; have NB353_346 := n8_; clear n0_ n1_ n2_ n3_ n4_ n5_ n6_ n7_ n8_; clear hb hbox hg; have hnb24 := NB353_346.out; have hnc24 := NB346_353.out; have hcz25_0 : w23.cell? ⟨gb353, 0, none⟩ = some (.int .i64 0) := (blk_cell BK353.out 0).trans rfl; have hcz25_1 : w23.cell? ⟨gb353, 1, none⟩ = some (.int .i64 0) := (blk_cell BK353.out 1).trans rfl; have hcz25_2 : w23.cell? ⟨gb353, 2, none⟩ = some (.int .i64 0) := (blk_cell BK353.out 2).trans rfl; have hcz25_3 : w23.cell? ⟨gb353, 3, none⟩ = some (.slice none 0 0) := (blk_cell BK353.out 3).trans rfl; have hfz25_0 := blk_frozen BK353.out 0; have hfz25_1 := blk_frozen BK353.out 1; have hfz25_2 := blk_frozen BK353.out 2; have hfz25_3 := blk_frozen BK353.out 3))
              go_loopg [17] k2 (fun kq v17 w' => ∃ (x17_3 : Int) (x354003_3 : List (S42)) (u354003 : Value), v17 = .int .i64 x17_3 ∧ Aside0 (selvagelaw13_CodeSizes.l2 kq t342 t343 t344 t345 x17_3 x347001_1 x347002_2 0 0 0 1 x354003_3 = some r) ∧ Aside0 (kq ≤ k2) ∧ Aside0 (Kd.R (Kd.int .i64) 3 w' w.heap.size (fun _ => True) u347001 x347001_1) ∧ Aside0 (Kd.R Kd.string 9 w' w.heap.size (fun _ => True) u347002 x347002_2) ∧ Aside0 (Kd.R k42 42 w' w.heap.size (fun _ => True) u354003 x354003_3) ∧ Aside0 (w'.heap[gb346]? = some (.cells #[(.slice none 0 0), u347001, u347002, .int .i64 0] 26 (0, 0))) ∧ Aside0 (w'.heap[gb353]? = some (.cells #[.int .i64 0, .int .i64 0, .int .i64 1, u354003] 40 (0, 0))) ∧ Aside0 (Below w.heap.size w w'))
              case atStart => exact ⟨(0), (([] : List (S42))), (.slice none 0 0), (by first | rfl | (simp; done) | (simp [*]; done)), H', ⟨Nat.le_refl _⟩, ⟨by (with_reducible repeat (first | apply Kd.R_alloc | apply Kd.R_drewN | apply Kd.R_drew)); exact Kd.R_mono (Kd.R_far (p := ⟨gb353, 3, none⟩) (Kd.R_far (p := ⟨gb353, 2, none⟩) (Kd.R_far (p := ⟨gb353, 1, none⟩) (Kd.R_far (p := ⟨gb353, 0, none⟩) (Kd.R_types HO_347001.out BK353.out (by decide)) (fun _ hk => hk.2) (.int .i64 0)) (fun _ hk => hk.2) (.int .i64 0)) (fun _ hk => hk.2) (.int .i64 1)) (fun _ hk => hk.2) (.slice none 0 0)) (fun _ hk => trivial)⟩, ⟨by (with_reducible repeat (first | apply Kd.R_alloc | apply Kd.R_drewN | apply Kd.R_drew)); exact Kd.R_mono (Kd.R_far (p := ⟨gb353, 3, none⟩) (Kd.R_far (p := ⟨gb353, 2, none⟩) (Kd.R_far (p := ⟨gb353, 1, none⟩) (Kd.R_far (p := ⟨gb353, 0, none⟩) (Kd.R_types HO_347002.out BK353.out (by decide)) (fun _ hk => hk.2) (.int .i64 0)) (fun _ hk => hk.2) (.int .i64 0)) (fun _ hk => hk.2) (.int .i64 1)) (fun _ hk => hk.2) (.slice none 0 0)) (fun _ hk => trivial)⟩, ⟨by first | exact Kd.R_nil _ _ _ _ _ | exact Kd.N_nil _ _ _ _ _ | exact Kd.V_nil _ _ _ _ _ | exact Kd.Q_nil _ _ _ _ _ | exact Kd.S_nil _ _ _ _ _⟩, ⟨by (with_reducible repeat (first | refine blk_drewN ?_ _ | refine blk_drew ?_ | refine blk_alloc ?_ _)); refine blk_far ?_ NB346_353.out _; (with_reducible repeat (first | refine blk_drewN ?_ _ | refine blk_drew ?_ | refine blk_alloc ?_ _)); refine blk_far ?_ NB346_353.out _; (with_reducible repeat (first | refine blk_drewN ?_ _ | refine blk_drew ?_ | refine blk_alloc ?_ _)); refine blk_far ?_ NB346_353.out _; (with_reducible repeat (first | refine blk_drewN ?_ _ | refine blk_drew ?_ | refine blk_alloc ?_ _)); refine blk_far ?_ NB346_353.out _; (with_reducible repeat (first | refine blk_drewN ?_ _ | refine blk_drew ?_ | refine blk_alloc ?_ _)); exact BK346.out⟩, ⟨by (with_reducible repeat (first | refine blk_drewN ?_ _ | refine blk_drew ?_ | refine blk_alloc ?_ _)); refine blk_put (cs := #[.int .i64 0, .int .i64 0, .int .i64 1, .slice none 0 0]) ?_ 3 _ rfl; (with_reducible repeat (first | refine blk_drewN ?_ _ | refine blk_drew ?_ | refine blk_alloc ?_ _)); refine blk_put (cs := #[.int .i64 0, .int .i64 0, .int .i64 0, .slice none 0 0]) ?_ 2 _ rfl; (with_reducible repeat (first | refine blk_drewN ?_ _ | refine blk_drew ?_ | refine blk_alloc ?_ _)); refine blk_put (cs := #[.int .i64 0, .int .i64 0, .int .i64 0, .slice none 0 0]) ?_ 1 _ rfl; (with_reducible repeat (first | refine blk_drewN ?_ _ | refine blk_drew ?_ | refine blk_alloc ?_ _)); refine blk_put (cs := #[.int .i64 0, .int .i64 0, .int .i64 0, .slice none 0 0]) ?_ 0 _ rfl; (with_reducible repeat (first | refine blk_drewN ?_ _ | refine blk_drew ?_ | refine blk_alloc ?_ _)); exact BK353.out⟩, ⟨by repeat (first | (with_reducible first | exact HB.out | apply below_alloc | apply pw_below_drewN | apply below_drew1 | refine below_set ?_ GE346.out | refine below_set ?_ GE353.out) | exact HB.out)⟩⟩
              case round =>
                clear H'
                try clear c1
                try clear c2
                try clear p2
                try clear c5
                try clear p6
                try clear c11
                try clear c11b0
                try clear c12
                try clear c17
                try clear c17b0
                try clear c18
                try clear c24
                try clear hcz10_0
                try clear hcz10_1
                try clear hcz10_2
                try clear hcz10_3
                try clear hcz13_0
                try clear hcz13_1
                try clear hcz13_2
                try clear hcz13_3
                try clear hcz16_0
                try clear hcz16_1
                try clear hcz16_2
                try clear hcz16_3
                try clear hcz19_0
                try clear hcz19_1
                try clear hcz19_2
                try clear hcz19_3
                try clear hcz22_0
                try clear hcz22_1
                try clear hcz22_2
                try clear hcz22_3
                try clear hcz25_0
                try clear hcz25_1
                try clear hcz25_2
                try clear hcz25_3
                try clear hfz10_0
                try clear hfz10_1
                try clear hfz10_2
                try clear hfz10_3
                try clear hfz13_0
                try clear hfz13_1
                try clear hfz13_2
                try clear hfz13_3
                try clear hfz16_0
                try clear hfz16_1
                try clear hfz16_2
                try clear hfz16_3
                try clear hfz19_0
                try clear hfz19_1
                try clear hfz19_2
                try clear hfz19_3
                try clear hfz22_0
                try clear hfz22_1
                try clear hfz22_2
                try clear hfz22_3
                try clear hfz25_0
                try clear hfz25_1
                try clear hfz25_2
                try clear hfz25_3
                try clear p2
                try clear p6
                obtain ⟨x17_3, x354003_3, u354003, rfl, HA, HK3, HO_347001, HO_347002, HO_354003, BK346, BK353, HB⟩ := hrel
                cases gk with
                | zero => exact absurd HA.out (by simp [selvagelaw13_CodeSizes.l2])
                | succ k3 =>
                  have H := HA.out
                  clear HA
                  simp only [selvagelaw13_CodeSizes.l2] at H
                  by_cases c26 : x17_3 < t345
                  · rw [if_pos c26] at H
                    have c26b0 : decide (x17_3 < t345) = true := decide_eq_true c26
                    clear c26
                    by_cases c27 : x354003_3.length < 5864062014805
                    · rw [if_pos c27] at H
                      have LMc27 := Aside0.mk c27
                      clear c27
                      obtain ⟨y354, hy354⟩ : ∃ y_ : List (S42), y_ = (x354003_3 ++ [(⟨9, 0, 0⟩ : S42)]) := ⟨_, rfl⟩
                      replace H : (selvagelaw13_CodeSizes.l2 k3 t342 t343 t344 t345 (wrap64 (x17_3 + 1)) x347001_1 x347002_2 0 0 0 1 y354) = some r := by first | (rw [hy354]; with_reducible exact H) | (have H2_ := (Option.bind_some _ _).symm.trans H; rw [hy354]; with_reducible exact H2_) | (have H2_ := (Option.bind_some _ _).symm.trans H; with_reducible exact H2_) | with_reducible exact H | (rw [hy354]; exact H) | exact H
                      have Ny354 := Aside0.mk hy354
                      clear hy354
                      have H' := Aside0.mk H
                      clear H
                      have hnb28 := NB353_346.out
                      have hnc28 := NB346_353.out
                      have hcz29_0 : wr.cell? ⟨gb353, 0, none⟩ = some (.int .i64 0) := (blk_cell BK353.out 0).trans rfl
                      have hcz29_1 : wr.cell? ⟨gb353, 1, none⟩ = some (.int .i64 0) := (blk_cell BK353.out 1).trans rfl
                      have hcz29_2 : wr.cell? ⟨gb353, 2, none⟩ = some (.int .i64 1) := (blk_cell BK353.out 2).trans rfl
                      have hcz29_3 : wr.cell? ⟨gb353, 3, none⟩ = some (u354003) := (blk_cell BK353.out 3).trans rfl
                      have hfz29_0 := blk_frozen BK353.out 0
                      have hfz29_1 := blk_frozen BK353.out 1
                      have hfz29_2 := blk_frozen BK353.out 2
                      have hfz29_3 := blk_frozen BK353.out 3
                      go_wp2_with (first | ((with_reducible refine gate_builtin (b := .append) (xs := #[.tmp 57, .tmp 59]) rfl ?_); at_builtin; refine Kd.R_append k42 (w0 := w) w.heap.size rfl (.tmp 57) (.tmp 59) 38 42 (.agg #[(.int .i64 0), (.int .i64 0), (.int .i64 0)]) 24 rfl Try.underlying38 info42 rfl (by decide) (by omega) u354003 x354003_3 (⟨9, 0, 0⟩ : S42) [.int .i64 9, .int .i64 0, .int .i64 0] (fun _ => True) (fun _ => False) rfl rfl ?aP (fun _ hk => hk.elim) ?aF ?aO ?aB ?aS ?aL ?_; (case aP => exact k42_mkM _ _ _ (⟨9, 0, 0⟩ : S42)); (case aB => exact (by repeat (first | (with_reducible first | exact HB.out | apply below_alloc | apply pw_below_drewN | apply below_drew1 | refine below_set ?_ GE346.out | refine below_set ?_ GE353.out) | exact HB.out))); (case aF => exact (fun _ _ => trivial)); (case aO => exact (by (with_reducible repeat (first | apply Kd.R_alloc | apply Kd.R_drewN | apply Kd.R_drew)); exact HO_354003.out)); (case aS => exact (below_size (by repeat (first | (with_reducible first | exact HB.out | apply below_alloc | apply pw_below_drewN | apply below_drew1 | refine below_set ?_ GE346.out | refine below_set ?_ GE353.out) | exact HB.out)))); (case aL => have := LMc27.out; omega); intro v355 w30 ho hb hg hat; rw [← Ny354.out] at ho; have n0_ := Aside0.mk (Kd.R_over' (by (with_reducible repeat (first | apply Kd.R_alloc | apply Kd.R_drewN | apply Kd.R_drew)); exact HO_347001.out) (Kd.R_typed (by (with_reducible repeat (first | apply Kd.R_alloc | apply Kd.R_drewN | apply Kd.R_drew)); exact HO_354003.out)) (by decide) hg); have n1_ := Aside0.mk (Kd.R_over' (by (with_reducible repeat (first | apply Kd.R_alloc | apply Kd.R_drewN | apply Kd.R_drew)); exact HO_347002.out) (Kd.R_typed (by (with_reducible repeat (first | apply Kd.R_alloc | apply Kd.R_drewN | apply Kd.R_drew)); exact HO_354003.out)) (by decide) hg); have n2_ := Aside0.mk (blk_grown (g := gb346) (o := .cells #[.slice none 0 0, u347001, u347002, .int .i64 0] 26 (0, 0)) (by (with_reducible repeat (first | refine blk_drewN ?_ _ | refine blk_drew ?_ | refine blk_alloc ?_ _)); exact BK346.out) hg (Kd.R_ne HO_354003.out BK346.out (by decide))); have n3_ := Aside0.mk (blk_grown (g := gb353) (o := .cells #[.int .i64 0, .int .i64 0, .int .i64 1, u354003] 40 (0, 0)) (by (with_reducible repeat (first | refine blk_drewN ?_ _ | refine blk_drew ?_ | refine blk_alloc ?_ _)); exact BK353.out) hg (Kd.R_ne HO_354003.out BK353.out (by decide))); have n4_ := Aside0.mk (hb); have n5_ := Aside0.mk (ho); clear HO_347001; clear HO_347002; clear BK346; clear BK353; clear HB; clear HO_354003; have HO_347001 := n0_; have HO_347002 := n1_; have BK346 := n2_; have BK353 := n3_; have HB := n4_; have HO356 := n5_; clear n0_ n1_ n2_ n3_ n4_ n5_; clear ho hb hg hat; obtain ⟨Ao31, co31, eo31⟩ := Kd.R_slice HO356.out; subst eo31; have hcz32_0 : w30.cell? ⟨gb353, 0, none⟩ = some (.int .i64 0) := (blk_cell BK353.out 0).trans rfl; have hcz32_1 : w30.cell? ⟨gb353, 1, none⟩ = some (.int .i64 0) := (blk_cell BK353.out 1).trans rfl; have hcz32_2 : w30.cell? ⟨gb353, 2, none⟩ = some (.int .i64 1) := (blk_cell BK353.out 2).trans rfl; have hcz32_3 : w30.cell? ⟨gb353, 3, none⟩ = some (u354003) := (blk_cell BK353.out 3).trans rfl; have hfz32_0 := blk_frozen BK353.out 0; have hfz32_1 := blk_frozen BK353.out 1; have hfz32_2 := blk_frozen BK353.out 2; have hfz32_3 := blk_frozen BK353.out 3))
                      go_roundg k3
                      case measure => have := HK1.out; have := HK2.out; have := HK3.out; omega
                      case rel => exact ⟨(wrap64 (x17_3 + 1)), (y354), (.slice Ao31 y354.length co31), (by first | rfl | (simp; done) | (simp [*]; done)), H', ⟨by have := HK1.out; have := HK2.out; have := HK3.out; omega⟩, ⟨by (with_reducible repeat (first | apply Kd.R_alloc | apply Kd.R_drewN | apply Kd.R_drew)); exact Kd.R_mono (Kd.R_far (p := ⟨gb353, 3, none⟩) (Kd.R_types HO_347001.out BK353.out (by decide)) (fun _ hk => hk.2) (.slice Ao31 y354.length co31)) (fun _ hk => trivial)⟩, ⟨by (with_reducible repeat (first | apply Kd.R_alloc | apply Kd.R_drewN | apply Kd.R_drew)); exact Kd.R_mono (Kd.R_far (p := ⟨gb353, 3, none⟩) (Kd.R_types HO_347002.out BK353.out (by decide)) (fun _ hk => hk.2) (.slice Ao31 y354.length co31)) (fun _ hk => trivial)⟩, ⟨by (with_reducible repeat (first | apply Kd.R_alloc | apply Kd.R_drewN | apply Kd.R_drew)); exact Kd.R_mono (Kd.R_far (p := ⟨gb353, 3, none⟩) (Kd.R_types HO356.out BK353.out (by decide)) (fun _ hk => hk.2) (.slice Ao31 y354.length co31)) (fun _ hk => trivial)⟩, ⟨by (with_reducible repeat (first | refine blk_drewN ?_ _ | refine blk_drew ?_ | refine blk_alloc ?_ _)); refine blk_far ?_ NB346_353.out _; (with_reducible repeat (first | refine blk_drewN ?_ _ | refine blk_drew ?_ | refine blk_alloc ?_ _)); exact BK346.out⟩, ⟨by (with_reducible repeat (first | refine blk_drewN ?_ _ | refine blk_drew ?_ | refine blk_alloc ?_ _)); refine blk_put (cs := #[.int .i64 0, .int .i64 0, .int .i64 1, u354003]) ?_ 3 _ rfl; (with_reducible repeat (first | refine blk_drewN ?_ _ | refine blk_drew ?_ | refine blk_alloc ?_ _)); exact BK353.out⟩, ⟨by repeat (first | (with_reducible first | exact HB.out | apply below_alloc | apply pw_below_drewN | apply below_drew1 | refine below_set ?_ GE346.out | refine below_set ?_ GE353.out) | exact HB.out)⟩⟩
                    · rw [if_neg c27] at H
                      exact absurd H (by simp)
                  · rw [if_neg c26] at H
                    have c26b0 : decide (x17_3 < t345) = false := decide_eq_false c26
                    clear c26
                    have H' := Aside0.mk H
                    clear H
                    go_wp2
                    go_loopg [18] k3 (fun kq v18 w' => ∃ (x18_4 : Int) (x347000_4 : List (S40)) (u347000 : Value), v18 = .int .i64 x18_4 ∧ Aside0 (selvagelaw13_CodeSizes.l3 kq t342 t343 t344 t345 x18_4 x347000_4 x347001_1 x347002_2 0 0 0 1 x354003_3 = some r) ∧ Aside0 (kq ≤ k3) ∧ Aside0 (Kd.N k40 40 w' w.heap.size (fun k_ => some k_ ≠ (u347001 : Value).ownBlock ∧ some k_ ≠ (u347002 : Value).ownBlock ∧ k_ ≠ gb346 ∧ k_ ≠ gb353) u347000 x347000_4) ∧ Aside0 (Kd.R (Kd.int .i64) 3 w' w.heap.size (fun _ => True) u347001 x347001_1) ∧ Aside0 (Kd.R Kd.string 9 w' w.heap.size (fun _ => True) u347002 x347002_2) ∧ Aside0 (Kd.R k42 42 w' w.heap.size (fun _ => True) u354003 x354003_3) ∧ Aside0 (w'.heap[gb346]? = some (.cells #[u347000, u347001, u347002, .int .i64 0] 26 (0, 0))) ∧ Aside0 (w'.heap[gb353]? = some (.cells #[.int .i64 0, .int .i64 0, .int .i64 1, u354003] 40 (0, 0))) ∧ Aside0 (Below w.heap.size w w'))
                    case atStart => exact ⟨(0), (([] : List (S40))), (.slice none 0 0), (by first | rfl | (simp; done) | (simp [*]; done)), H', ⟨Nat.le_refl _⟩, ⟨by first | exact Kd.S_nil _ _ _ _ _ | exact Kd.N_nil _ _ _ _ _ | exact Kd.V_nil _ _ _ _ _ | exact Kd.Q_nil _ _ _ _ _ | exact Kd.R_nil _ _ _ _ _⟩, ⟨by (with_reducible repeat (first | apply Kd.R_alloc | apply Kd.R_drewN | apply Kd.R_drew)); exact HO_347001.out⟩, ⟨by (with_reducible repeat (first | apply Kd.R_alloc | apply Kd.R_drewN | apply Kd.R_drew)); exact HO_347002.out⟩, ⟨by (with_reducible repeat (first | apply Kd.R_alloc | apply Kd.R_drewN | apply Kd.R_drew)); exact HO_354003.out⟩, ⟨by (with_reducible repeat (first | refine blk_drewN ?_ _ | refine blk_drew ?_ | refine blk_alloc ?_ _)); exact BK346.out⟩, ⟨by (with_reducible repeat (first | refine blk_drewN ?_ _ | refine blk_drew ?_ | refine blk_alloc ?_ _)); exact BK353.out⟩, ⟨by repeat (first | (with_reducible first | exact HB.out | apply below_alloc | apply pw_below_drewN | apply below_drew1 | refine below_set ?_ GE346.out | refine below_set ?_ GE353.out) | exact HB.out)⟩⟩
                    case round =>
                      clear H'
                      try clear c1
                      try clear c2
                      try clear p2
                      try clear c5
                      try clear p6
                      try clear c11
                      try clear c11b0
                      try clear c12
                      try clear c17
                      try clear c17b0
                      try clear c18
                      try clear c24
                      try clear c26
                      try clear c26b0
                      try clear c27
                      try clear c28
                      try clear hcz10_0
                      try clear hcz10_1
                      try clear hcz10_2
                      try clear hcz10_3
                      try clear hcz13_0
                      try clear hcz13_1
                      try clear hcz13_2
                      try clear hcz13_3
                      try clear hcz16_0
                      try clear hcz16_1
                      try clear hcz16_2
                      try clear hcz16_3
                      try clear hcz19_0
                      try clear hcz19_1
                      try clear hcz19_2
                      try clear hcz19_3
                      try clear hcz22_0
                      try clear hcz22_1
                      try clear hcz22_2
                      try clear hcz22_3
                      try clear hcz25_0
                      try clear hcz25_1
                      try clear hcz25_2
                      try clear hcz25_3
                      try clear hcz29_0
                      try clear hcz29_1
                      try clear hcz29_2
                      try clear hcz29_3
                      try clear hcz32_0
                      try clear hcz32_1
                      try clear hcz32_2
                      try clear hcz32_3
                      try clear hfz10_0
                      try clear hfz10_1
                      try clear hfz10_2
                      try clear hfz10_3
                      try clear hfz13_0
                      try clear hfz13_1
                      try clear hfz13_2
                      try clear hfz13_3
                      try clear hfz16_0
                      try clear hfz16_1
                      try clear hfz16_2
                      try clear hfz16_3
                      try clear hfz19_0
                      try clear hfz19_1
                      try clear hfz19_2
                      try clear hfz19_3
                      try clear hfz22_0
                      try clear hfz22_1
                      try clear hfz22_2
                      try clear hfz22_3
                      try clear hfz25_0
                      try clear hfz25_1
                      try clear hfz25_2
                      try clear hfz25_3
                      try clear hfz29_0
                      try clear hfz29_1
                      try clear hfz29_2
                      try clear hfz29_3
                      try clear hfz32_0
                      try clear hfz32_1
                      try clear hfz32_2
                      try clear hfz32_3
                      try clear p2
                      try clear p6
                      obtain ⟨x18_4, x347000_4, u347000, rfl, HA, HK4, HO_347000, HO_347001, HO_347002, HO_354003, BK346, BK353, HB⟩ := hrel
                      cases gk with
                      | zero => exact absurd HA.out (by simp [selvagelaw13_CodeSizes.l3])
                      | succ k4 =>
                        have H := HA.out
                        clear HA
                        simp only [selvagelaw13_CodeSizes.l3] at H
                        by_cases c33 : x18_4 < t342
                        · rw [if_pos c33] at H
                          have c33b0 : decide (x18_4 < t342) = true := decide_eq_true c33
                          clear c33
                          by_cases c34 : x347000_4.length < 2932031007402
                          · rw [if_pos c34] at H
                            have LMc34 := Aside0.mk c34
                            clear c34
                            obtain ⟨y357, hy357⟩ : ∃ y_ : List (S40), y_ = (x347000_4 ++ [(⟨0, 0, 1, x354003_3⟩ : S40)]) := ⟨_, rfl⟩
                            replace H : (selvagelaw13_CodeSizes.l3 k4 t342 t343 t344 t345 (wrap64 (x18_4 + 1)) y357 x347001_1 x347002_2 0 0 0 1 x354003_3) = some r := by first | (rw [hy357]; with_reducible exact H) | (have H2_ := (Option.bind_some _ _).symm.trans H; rw [hy357]; with_reducible exact H2_) | (have H2_ := (Option.bind_some _ _).symm.trans H; with_reducible exact H2_) | with_reducible exact H | (rw [hy357]; exact H) | exact H
                            have Ny357 := Aside0.mk hy357
                            clear hy357
                            have H' := Aside0.mk H
                            clear H
                            have hnb35 := NB346_353.out
                            have hnc35 := NB353_346.out
                            have hcz36_0 : wr.cell? ⟨gb346, 0, none⟩ = some (u347000) := (blk_cell BK346.out 0).trans rfl
                            have hcz36_1 : wr.cell? ⟨gb346, 1, none⟩ = some (u347001) := (blk_cell BK346.out 1).trans rfl
                            have hcz36_2 : wr.cell? ⟨gb346, 2, none⟩ = some (u347002) := (blk_cell BK346.out 2).trans rfl
                            have hcz36_3 : wr.cell? ⟨gb346, 3, none⟩ = some (.int .i64 0) := (blk_cell BK346.out 3).trans rfl
                            have hfz36_0 := blk_frozen BK346.out 0
                            have hfz36_1 := blk_frozen BK346.out 1
                            have hfz36_2 := blk_frozen BK346.out 2
                            have hfz36_3 := blk_frozen BK346.out 3
                            have hcz37_0 : wr.cell? ⟨gb353, 0, none⟩ = some (.int .i64 0) := (blk_cell BK353.out 0).trans rfl
                            have hcz37_1 : wr.cell? ⟨gb353, 1, none⟩ = some (.int .i64 0) := (blk_cell BK353.out 1).trans rfl
                            have hcz37_2 : wr.cell? ⟨gb353, 2, none⟩ = some (.int .i64 1) := (blk_cell BK353.out 2).trans rfl
                            have hcz37_3 : wr.cell? ⟨gb353, 3, none⟩ = some (u354003) := (blk_cell BK353.out 3).trans rfl
                            have hfz37_0 := blk_frozen BK353.out 0
                            have hfz37_1 := blk_frozen BK353.out 1
                            have hfz37_2 := blk_frozen BK353.out 2
                            have hfz37_3 := blk_frozen BK353.out 3
                            obtain ⟨Ao39, co39, eo39⟩ := Kd.R_slice HO_354003.out
                            subst eo39
                            go_wp2_with (first | ((with_reducible refine gate_builtin (b := .append) (xs := #[.tmp 68, .tmp 70]) rfl ?_); at_builtin; refine Kd.N_append k40 (w0 := w) w.heap.size rfl (.tmp 68) (.tmp 70) 22 40 (.agg #[(.int .i64 0), (.int .i64 0), (.int .i64 0), (.slice none 0 0)]) 48 rfl Try.underlying22 info40 rfl (by decide) (by omega) u347000 x347000_4 (⟨0, 0, 1, x354003_3⟩ : S40) [.int .i64 0, .int .i64 0, .int .i64 1, .slice Ao39 x354003_3.length co39] (fun k_ => some k_ ≠ (u347001 : Value).ownBlock ∧ some k_ ≠ (u347002 : Value).ownBlock ∧ k_ ≠ gb346 ∧ k_ ≠ gb353) (fun k_ => ((fun k_ => some k_ ≠ (u347001 : Value).ownBlock ∧ some k_ ≠ (u347002 : Value).ownBlock ∧ k_ ≠ gb346 ∧ k_ ≠ gb353)) k_ ∧ some k_ ≠ (u347000 : Value).ownBlock) rfl rfl ?aP (fun _ hk => hk) ?aF ?aO ?aB ?aS ?aL ?_; (case aP => exact (k40_mkF _ _ (⟨0, 0, 1, x354003_3⟩ : S40) (Kd.R_reads' (Kd.R_mono (ok' := (fun k_ => ((fun k_ => some k_ ≠ (u347001 : Value).ownBlock ∧ some k_ ≠ (u347002 : Value).ownBlock ∧ k_ ≠ gb346 ∧ k_ ≠ gb353)) k_ ∧ some k_ ≠ (u347000 : Value).ownBlock)) (Kd.R_types (Kd.R_types (Kd.R_apart' (Kd.R_apart' (Kd.R_apart' (HO_354003.out) (Kd.R_typed HO_347001.out) (by decide)) (Kd.R_typed HO_347002.out) (by decide)) (Kd.N_typed HO_347000.out) (by decide)) BK346.out (by decide)) BK353.out (by decide)) (fun k_ hk => ⟨⟨hk.1.1.1.1.2, ⟨hk.1.1.1.2, ⟨hk.1.2, hk.2⟩⟩⟩, hk.1.1.2⟩))).2.1 (Kd.R_F (Kd.R_mono (ok' := (fun k_ => ((fun k_ => some k_ ≠ (u347001 : Value).ownBlock ∧ some k_ ≠ (u347002 : Value).ownBlock ∧ k_ ≠ gb346 ∧ k_ ≠ gb353)) k_ ∧ some k_ ≠ (u347000 : Value).ownBlock)) (Kd.R_types (Kd.R_types (Kd.R_apart' (Kd.R_apart' (Kd.R_apart' (HO_354003.out) (Kd.R_typed HO_347001.out) (by decide)) (Kd.R_typed HO_347002.out) (by decide)) (Kd.N_typed HO_347000.out) (by decide)) BK346.out (by decide)) BK353.out (by decide)) (fun k_ hk => ⟨⟨hk.1.1.1.1.2, ⟨hk.1.1.1.2, ⟨hk.1.2, hk.2⟩⟩⟩, hk.1.1.2⟩))))); (case aB => exact (by repeat (first | (with_reducible first | exact HB.out | apply below_alloc | apply pw_below_drewN | apply below_drew1 | refine below_set ?_ GE346.out | refine below_set ?_ GE353.out) | exact HB.out))); (case aF => exact (fun k_ hk => ⟨Kd.fresh' (Kd.R_lt (by (with_reducible repeat (first | apply Kd.R_alloc | apply Kd.R_drewN | apply Kd.R_drew)); exact HO_347001.out)) k_ hk, Kd.fresh' (Kd.R_lt (by (with_reducible repeat (first | apply Kd.R_alloc | apply Kd.R_drewN | apply Kd.R_drew)); exact HO_347002.out)) k_ hk, Kd.freshB (g := gb346) (o := .cells #[u347000, u347001, u347002, .int .i64 0] 26 (0, 0)) (by (with_reducible repeat (first | refine blk_drewN ?_ _ | refine blk_drew ?_ | refine blk_alloc ?_ _)); exact BK346.out) k_ hk, Kd.freshB (g := gb353) (o := .cells #[.int .i64 0, .int .i64 0, .int .i64 1, .slice Ao39 x354003_3.length co39] 40 (0, 0)) (by (with_reducible repeat (first | refine blk_drewN ?_ _ | refine blk_drew ?_ | refine blk_alloc ?_ _)); exact BK353.out) k_ hk⟩)); (case aO => exact (by (with_reducible repeat (first | apply Kd.N_alloc | apply Kd.N_drewN | apply Kd.N_drew)); exact HO_347000.out)); (case aS => exact (below_size (by repeat (first | (with_reducible first | exact HB.out | apply below_alloc | apply pw_below_drewN | apply below_drew1 | refine below_set ?_ GE346.out | refine below_set ?_ GE353.out) | exact HB.out)))); (case aL => have := LMc34.out; omega); intro v358 w38 ho hb hg hat; rw [← Ny357.out] at ho; have n0_ := Aside0.mk (Kd.R_over' (by (with_reducible repeat (first | apply Kd.R_alloc | apply Kd.R_drewN | apply Kd.R_drew)); exact HO_347001.out) (Kd.N_typed (by (with_reducible repeat (first | apply Kd.N_alloc | apply Kd.N_drewN | apply Kd.N_drew)); exact HO_347000.out)) (by decide) hg); have n1_ := Aside0.mk (Kd.R_over' (by (with_reducible repeat (first | apply Kd.R_alloc | apply Kd.R_drewN | apply Kd.R_drew)); exact HO_347002.out) (Kd.N_typed (by (with_reducible repeat (first | apply Kd.N_alloc | apply Kd.N_drewN | apply Kd.N_drew)); exact HO_347000.out)) (by decide) hg); have n6_ := Aside0.mk (Kd.R_over' (by (with_reducible repeat (first | apply Kd.R_alloc | apply Kd.R_drewN | apply Kd.R_drew)); exact HO_354003.out) (Kd.N_typed (by (with_reducible repeat (first | apply Kd.N_alloc | apply Kd.N_drewN | apply Kd.N_drew)); exact HO_347000.out)) (by decide) hg); have n2_ := Aside0.mk (blk_grown (g := gb346) (o := .cells #[u347000, u347001, u347002, .int .i64 0] 26 (0, 0)) (by (with_reducible repeat (first | refine blk_drewN ?_ _ | refine blk_drew ?_ | refine blk_alloc ?_ _)); exact BK346.out) hg (Kd.N_ne HO_347000.out BK346.out (by decide))); have n3_ := Aside0.mk (blk_grown (g := gb353) (o := .cells #[.int .i64 0, .int .i64 0, .int .i64 1, .slice Ao39 x354003_3.length co39] 40 (0, 0)) (by (with_reducible repeat (first | refine blk_drewN ?_ _ | refine blk_drew ?_ | refine blk_alloc ?_ _)); exact BK353.out) hg (Kd.N_away HO_347000.out (fun _ hk => hk.2.2.2))); have n4_ := Aside0.mk (hb); have n5_ := Aside0.mk (ho); clear HO_347001; clear HO_347002; clear BK346; clear BK353; clear HB; clear HO_347000; clear HO_354003; have HO_347001 := n0_; have HO_347002 := n1_; have BK346 := n2_; have BK353 := n3_; have HB := n4_; have HO359 := n5_; have HO_354003 := n6_; clear n0_ n1_ n2_ n3_ n4_ n5_ n6_; clear ho hb hg hat; obtain ⟨Ao40, co40, eo40⟩ := Kd.N_slice HO359.out; subst eo40; have hcz41_0 : w38.cell? ⟨gb346, 0, none⟩ = some (u347000) := (blk_cell BK346.out 0).trans rfl; have hcz41_1 : w38.cell? ⟨gb346, 1, none⟩ = some (u347001) := (blk_cell BK346.out 1).trans rfl; have hcz41_2 : w38.cell? ⟨gb346, 2, none⟩ = some (u347002) := (blk_cell BK346.out 2).trans rfl; have hcz41_3 : w38.cell? ⟨gb346, 3, none⟩ = some (.int .i64 0) := (blk_cell BK346.out 3).trans rfl; have hfz41_0 := blk_frozen BK346.out 0; have hfz41_1 := blk_frozen BK346.out 1; have hfz41_2 := blk_frozen BK346.out 2; have hfz41_3 := blk_frozen BK346.out 3))
                            go_roundg k4
                            case measure => have := HK1.out; have := HK2.out; have := HK3.out; have := HK4.out; omega
                            case rel => exact ⟨(wrap64 (x18_4 + 1)), (y357), (.slice Ao40 y357.length co40), (by first | rfl | (simp; done) | (simp [*]; done)), H', ⟨by have := HK1.out; have := HK2.out; have := HK3.out; have := HK4.out; omega⟩, ⟨by (with_reducible repeat (first | apply Kd.N_alloc | apply Kd.N_drewN | apply Kd.N_drew)); exact Kd.N_mono (Kd.N_far (p := ⟨gb346, 0, none⟩) (Kd.N_mono HO359.out (fun k_ hk => (⟨hk, hk.2.2.1⟩ : _ ∧ k_ ≠ gb346))) (fun _ hk => hk.2) (.slice Ao40 y357.length co40)) (fun _ hk => ⟨hk.1.1, ⟨hk.1.2.1, ⟨hk.1.2.2.1, hk.1.2.2.2⟩⟩⟩)⟩, ⟨by (with_reducible repeat (first | apply Kd.R_alloc | apply Kd.R_drewN | apply Kd.R_drew)); exact Kd.R_mono (Kd.R_far (p := ⟨gb346, 0, none⟩) (Kd.R_types HO_347001.out BK346.out (by decide)) (fun _ hk => hk.2) (.slice Ao40 y357.length co40)) (fun _ hk => trivial)⟩, ⟨by (with_reducible repeat (first | apply Kd.R_alloc | apply Kd.R_drewN | apply Kd.R_drew)); exact Kd.R_mono (Kd.R_far (p := ⟨gb346, 0, none⟩) (Kd.R_types HO_347002.out BK346.out (by decide)) (fun _ hk => hk.2) (.slice Ao40 y357.length co40)) (fun _ hk => trivial)⟩, ⟨by (with_reducible repeat (first | apply Kd.R_alloc | apply Kd.R_drewN | apply Kd.R_drew)); exact Kd.R_mono (Kd.R_far (p := ⟨gb346, 0, none⟩) (Kd.R_types HO_354003.out BK346.out (by decide)) (fun _ hk => hk.2) (.slice Ao40 y357.length co40)) (fun _ hk => trivial)⟩, ⟨by (with_reducible repeat (first | refine blk_drewN ?_ _ | refine blk_drew ?_ | refine blk_alloc ?_ _)); refine blk_put (cs := #[u347000, u347001, u347002, .int .i64 0]) ?_ 0 _ rfl; (with_reducible repeat (first | refine blk_drewN ?_ _ | refine blk_drew ?_ | refine blk_alloc ?_ _)); exact BK346.out⟩, ⟨by (with_reducible repeat (first | refine blk_drewN ?_ _ | refine blk_drew ?_ | refine blk_alloc ?_ _)); refine blk_far ?_ NB353_346.out _; (with_reducible repeat (first | refine blk_drewN ?_ _ | refine blk_drew ?_ | refine blk_alloc ?_ _)); exact BK353.out⟩, ⟨by repeat (first | (with_reducible first | exact HB.out | apply below_alloc | apply pw_below_drewN | apply below_drew1 | refine below_set ?_ GE346.out | refine below_set ?_ GE353.out) | exact HB.out)⟩⟩
                          · rw [if_neg c34] at H
                            exact absurd H (by simp)
                        · rw [if_neg c33] at H
                          have c33b0 : decide (x18_4 < t342) = false := decide_eq_false c33
                          clear c33
                          by_cases c42 : t342 ≥ 1
                          · rw [if_pos c42] at H
                            have c42b0 : decide (1 ≤ t342) = true := decide_eq_true c42
                            clear c42
                            by_cases c43 : t342 ≤ 120
                            · rw [if_pos c43] at H
                              have c43b0 : decide (t342 ≤ 120) = true := decide_eq_true c43
                              clear c43
                              by_cases c44 : t343 ≤ 120
                              · rw [if_pos c44] at H
                                have c44b0 : decide (t343 ≤ 120) = true := decide_eq_true c44
                                clear c44
                                by_cases c45 : t344 ≤ 120
                                · rw [if_pos c45] at H
                                  have c45b0 : decide (t344 ≤ 120) = true := decide_eq_true c45
                                  clear c45
                                  by_cases c46 : t345 ≥ 1
                                  · rw [if_pos c46] at H
                                    have c46b0 : decide (1 ≤ t345) = true := decide_eq_true c46
                                    clear c46
                                    replace H := Option.bind_eq_some_iff.mp H
                                    obtain ⟨t360, A470, H⟩ := H
                                    replace H : (if (t360 == (decide (t345 ≤ 400))) = true then ((selvagelaw13_lives.f k4).bind fun t361 => (some t361)) else (some false)) = some r := H
                                    have A47 := Aside0.mk A470
                                    clear A470
                                    by_cases c48 : (t360 == (decide (t345 ≤ 400))) = true
                                    · rw [if_pos c48] at H
                                      have c48b0 : (t360 == (decide (t345 ≤ 400))) = true := c48
                                      (try (have c48b1 : decide (t360 = (decide (t345 ≤ 400))) = true := by simpa using c48))
                                      (try (have c48b2 : (t360 == (decide (t345 ≤ 400))) = true := by simpa using c48))
                                      clear c48
                                      replace H := Option.bind_eq_some_iff.mp H
                                      obtain ⟨t361, A490, H⟩ := H
                                      replace H : (some t361) = some r := H
                                      have A49 := Aside0.mk A490
                                      clear A490
                                      obtain rfl := Option.some.inj H
                                      have hnb50 := NB346_353.out
                                      have hnc50 := NB353_346.out
                                      have hcz51_0 : wr.cell? ⟨gb346, 0, none⟩ = some (u347000) := (blk_cell BK346.out 0).trans rfl
                                      have hcz51_1 : wr.cell? ⟨gb346, 1, none⟩ = some (u347001) := (blk_cell BK346.out 1).trans rfl
                                      have hcz51_2 : wr.cell? ⟨gb346, 2, none⟩ = some (u347002) := (blk_cell BK346.out 2).trans rfl
                                      have hcz51_3 : wr.cell? ⟨gb346, 3, none⟩ = some (.int .i64 0) := (blk_cell BK346.out 3).trans rfl
                                      have hfz51_0 := blk_frozen BK346.out 0
                                      have hfz51_1 := blk_frozen BK346.out 1
                                      have hfz51_2 := blk_frozen BK346.out 2
                                      have hfz51_3 := blk_frozen BK346.out 3
                                      obtain ⟨Ao52, co52, eo52⟩ := Kd.N_slice HO_347000.out
                                      subst eo52
                                      obtain ⟨Ao53, co53, eo53⟩ := Kd.R_slice HO_347001.out
                                      subst eo53
                                      obtain ⟨Ao54, co54, eo54⟩ := Kd.R_slice HO_347002.out
                                      subst eo54
                                      go_wp2_with (first | ((with_reducible refine gate_callee (f := 13) rfl ?_); refine goesL_ (some 96) rfl rfl Try.func13 (by kernel_rfl) rfl #[.agg #[.slice Ao52 x347000_4.length co52, .slice Ao53 x347001_1.length co53, .slice Ao54 x347002_2.length co54, .int .i64 0]] rfl (by (try simp only [List.map_toArray, List.map_cons, List.map_nil]); first | done | rfl | (simp only [List.length_drop, List.length_take]; rfl)) ?_; (with_reducible refine (code_May.calls k4 _ _ x347000_4 _ _ x347001_1 _ _ x347002_2 0 t360 _ ?side1 ?side2 ?side3 ?side4 ?side5 ?side6 A47.out).mono ?_); (case side1 => repeat (first | exact (Kd.N_reads' HO_347000.out).2.2 | (with_reducible refine Kd.C_alloc ?_ _) | (with_reducible refine Kd.C_drewN ?_ _) | (with_reducible refine Kd.C_drew ?_))); (case side2 => exact (Kd.N_reads' HO_347000.out).2.1); (case side3 => repeat (first | exact (Kd.R_reads' HO_347001.out).2.2 | (with_reducible refine Kd.C_alloc ?_ _) | (with_reducible refine Kd.C_drewN ?_ _) | (with_reducible refine Kd.C_drew ?_))); (case side4 => exact (Kd.R_reads' HO_347001.out).2.1); (case side5 => repeat (first | exact (Kd.R_reads' HO_347002.out).2.2 | (with_reducible refine Kd.C_alloc ?_ _) | (with_reducible refine Kd.C_drewN ?_ _) | (with_reducible refine Kd.C_drew ?_))); (case side6 => exact (Kd.R_reads' HO_347002.out).2.1); rintro e w55 ⟨rfl, hb⟩; refine ⟨_, rfl, ?_⟩; have n0_ := Aside0.mk (Kd.N_below (by (with_reducible repeat (first | apply Kd.N_alloc | apply Kd.N_drewN | apply Kd.N_drew)); exact HO_347000.out) hb); have n1_ := Aside0.mk (Kd.R_below (by (with_reducible repeat (first | apply Kd.R_alloc | apply Kd.R_drewN | apply Kd.R_drew)); exact HO_347001.out) hb); have n2_ := Aside0.mk (Kd.R_below (by (with_reducible repeat (first | apply Kd.R_alloc | apply Kd.R_drewN | apply Kd.R_drew)); exact HO_347002.out) hb); have n3_ := Aside0.mk (Kd.R_below (by (with_reducible repeat (first | apply Kd.R_alloc | apply Kd.R_drewN | apply Kd.R_drew)); exact HO_354003.out) hb); have n4_ := Aside0.mk (blk_below (g := gb346) (o := .cells #[.slice Ao52 x347000_4.length co52, .slice Ao53 x347001_1.length co53, .slice Ao54 x347002_2.length co54, .int .i64 0] 26 (0, 0)) (by (with_reducible repeat (first | refine blk_drewN ?_ _ | refine blk_drew ?_ | refine blk_alloc ?_ _)); exact BK346.out) hb); have n5_ := Aside0.mk (blk_below (g := gb353) (o := .cells #[.int .i64 0, .int .i64 0, .int .i64 1, u354003] 40 (0, 0)) (by (with_reducible repeat (first | refine blk_drewN ?_ _ | refine blk_drew ?_ | refine blk_alloc ?_ _)); exact BK353.out) hb); have n6_ := Aside0.mk (below_step (by repeat (first | (with_reducible first | exact HB.out | apply below_alloc | apply pw_below_drewN | apply below_drew1 | refine below_set ?_ GE346.out | refine below_set ?_ GE353.out) | exact HB.out)) hb); clear HO_347000; clear HO_347001; clear HO_347002; clear HO_354003; clear BK346; clear BK353; clear HB; have HO_347000 := n0_; have HO_347001 := n1_; have HO_347002 := n2_; have HO_354003 := n3_; have BK346 := n4_; have BK353 := n5_; have HB := n6_; clear n0_ n1_ n2_ n3_ n4_ n5_ n6_; (try clear hb); (try clear hb2); (try clear hk); (try clear hi)) | (go_at_call 15; (with_reducible refine (selvagelaw13_lives.calls k4  t361 _ A49.out).mono ?_); rintro e w56 ⟨rfl, hb⟩; have n0_ := Aside0.mk (Kd.N_below (by (with_reducible repeat (first | apply Kd.N_alloc | apply Kd.N_drewN | apply Kd.N_drew)); exact HO_347000.out) hb); have n1_ := Aside0.mk (Kd.R_below (by (with_reducible repeat (first | apply Kd.R_alloc | apply Kd.R_drewN | apply Kd.R_drew)); exact HO_347001.out) hb); have n2_ := Aside0.mk (Kd.R_below (by (with_reducible repeat (first | apply Kd.R_alloc | apply Kd.R_drewN | apply Kd.R_drew)); exact HO_347002.out) hb); have n3_ := Aside0.mk (Kd.R_below (by (with_reducible repeat (first | apply Kd.R_alloc | apply Kd.R_drewN | apply Kd.R_drew)); exact HO_354003.out) hb); have n4_ := Aside0.mk (blk_below (g := gb346) (o := .cells #[.slice Ao52 x347000_4.length co52, .slice Ao53 x347001_1.length co53, .slice Ao54 x347002_2.length co54, .int .i64 0] 26 (0, 0)) (by (with_reducible repeat (first | refine blk_drewN ?_ _ | refine blk_drew ?_ | refine blk_alloc ?_ _)); exact BK346.out) hb); have n5_ := Aside0.mk (blk_below (g := gb353) (o := .cells #[.int .i64 0, .int .i64 0, .int .i64 1, u354003] 40 (0, 0)) (by (with_reducible repeat (first | refine blk_drewN ?_ _ | refine blk_drew ?_ | refine blk_alloc ?_ _)); exact BK353.out) hb); have n6_ := Aside0.mk (below_step (by repeat (first | (with_reducible first | exact HB.out | apply below_alloc | apply pw_below_drewN | apply below_drew1 | refine below_set ?_ GE346.out | refine below_set ?_ GE353.out) | exact HB.out)) hb); clear HO_347000; clear HO_347001; clear HO_347002; clear HO_354003; clear BK346; clear BK353; clear HB; have HO_347000 := n0_; have HO_347001 := n1_; have HO_347002 := n2_; have HO_354003 := n3_; have BK346 := n4_; have BK353 := n5_; have HB := n6_; clear n0_ n1_ n2_ n3_ n4_ n5_ n6_; (try clear hb); (try clear hb2); (try clear hk); (try clear hi)))
                                      go_ret
                                      exact ⟨by first | rfl | (simp [errW_none, errW_some] <;> rfl) | (simp [*, errW_none, errW_some] <;> rfl), by repeat (first | (with_reducible first | exact HB.out | apply below_alloc | apply pw_below_drewN | apply below_drew1 | refine below_set ?_ GE346.out | refine below_set ?_ GE353.out) | exact HB.out)⟩
                                    · rw [if_neg c48] at H
                                      have c48b0 : (t360 == (decide (t345 ≤ 400))) = false := by simpa using c48
                                      (try (have c48b1 : decide (t360 = (decide (t345 ≤ 400))) = false := by simpa using c48))
                                      (try (have c48b2 : (t360 == (decide (t345 ≤ 400))) = false := by simpa using c48))
                                      (try (have c48b3 : ¬ (t360 = (decide (t345 ≤ 400))) := by simpa using c48))
                                      clear c48
                                      obtain rfl := Option.some.inj H
                                      have hnb57 := NB346_353.out
                                      have hnc57 := NB353_346.out
                                      have hcz58_0 : wr.cell? ⟨gb346, 0, none⟩ = some (u347000) := (blk_cell BK346.out 0).trans rfl
                                      have hcz58_1 : wr.cell? ⟨gb346, 1, none⟩ = some (u347001) := (blk_cell BK346.out 1).trans rfl
                                      have hcz58_2 : wr.cell? ⟨gb346, 2, none⟩ = some (u347002) := (blk_cell BK346.out 2).trans rfl
                                      have hcz58_3 : wr.cell? ⟨gb346, 3, none⟩ = some (.int .i64 0) := (blk_cell BK346.out 3).trans rfl
                                      have hfz58_0 := blk_frozen BK346.out 0
                                      have hfz58_1 := blk_frozen BK346.out 1
                                      have hfz58_2 := blk_frozen BK346.out 2
                                      have hfz58_3 := blk_frozen BK346.out 3
                                      obtain ⟨Ao59, co59, eo59⟩ := Kd.N_slice HO_347000.out
                                      subst eo59
                                      obtain ⟨Ao60, co60, eo60⟩ := Kd.R_slice HO_347001.out
                                      subst eo60
                                      obtain ⟨Ao61, co61, eo61⟩ := Kd.R_slice HO_347002.out
                                      subst eo61
                                      go_wp2_with (first | ((with_reducible refine gate_callee (f := 13) rfl ?_); refine goesL_ (some 96) rfl rfl Try.func13 (by kernel_rfl) rfl #[.agg #[.slice Ao59 x347000_4.length co59, .slice Ao60 x347001_1.length co60, .slice Ao61 x347002_2.length co61, .int .i64 0]] rfl (by (try simp only [List.map_toArray, List.map_cons, List.map_nil]); first | done | rfl | (simp only [List.length_drop, List.length_take]; rfl)) ?_; (with_reducible refine (code_May.calls k4 _ _ x347000_4 _ _ x347001_1 _ _ x347002_2 0 t360 _ ?side1 ?side2 ?side3 ?side4 ?side5 ?side6 A47.out).mono ?_); (case side1 => repeat (first | exact (Kd.N_reads' HO_347000.out).2.2 | (with_reducible refine Kd.C_alloc ?_ _) | (with_reducible refine Kd.C_drewN ?_ _) | (with_reducible refine Kd.C_drew ?_))); (case side2 => exact (Kd.N_reads' HO_347000.out).2.1); (case side3 => repeat (first | exact (Kd.R_reads' HO_347001.out).2.2 | (with_reducible refine Kd.C_alloc ?_ _) | (with_reducible refine Kd.C_drewN ?_ _) | (with_reducible refine Kd.C_drew ?_))); (case side4 => exact (Kd.R_reads' HO_347001.out).2.1); (case side5 => repeat (first | exact (Kd.R_reads' HO_347002.out).2.2 | (with_reducible refine Kd.C_alloc ?_ _) | (with_reducible refine Kd.C_drewN ?_ _) | (with_reducible refine Kd.C_drew ?_))); (case side6 => exact (Kd.R_reads' HO_347002.out).2.1); rintro e w62 ⟨rfl, hb⟩; refine ⟨_, rfl, ?_⟩; have n0_ := Aside0.mk (Kd.N_below (by (with_reducible repeat (first | apply Kd.N_alloc | apply Kd.N_drewN | apply Kd.N_drew)); exact HO_347000.out) hb); have n1_ := Aside0.mk (Kd.R_below (by (with_reducible repeat (first | apply Kd.R_alloc | apply Kd.R_drewN | apply Kd.R_drew)); exact HO_347001.out) hb); have n2_ := Aside0.mk (Kd.R_below (by (with_reducible repeat (first | apply Kd.R_alloc | apply Kd.R_drewN | apply Kd.R_drew)); exact HO_347002.out) hb); have n3_ := Aside0.mk (Kd.R_below (by (with_reducible repeat (first | apply Kd.R_alloc | apply Kd.R_drewN | apply Kd.R_drew)); exact HO_354003.out) hb); have n4_ := Aside0.mk (blk_below (g := gb346) (o := .cells #[.slice Ao59 x347000_4.length co59, .slice Ao60 x347001_1.length co60, .slice Ao61 x347002_2.length co61, .int .i64 0] 26 (0, 0)) (by (with_reducible repeat (first | refine blk_drewN ?_ _ | refine blk_drew ?_ | refine blk_alloc ?_ _)); exact BK346.out) hb); have n5_ := Aside0.mk (blk_below (g := gb353) (o := .cells #[.int .i64 0, .int .i64 0, .int .i64 1, u354003] 40 (0, 0)) (by (with_reducible repeat (first | refine blk_drewN ?_ _ | refine blk_drew ?_ | refine blk_alloc ?_ _)); exact BK353.out) hb); have n6_ := Aside0.mk (below_step (by repeat (first | (with_reducible first | exact HB.out | apply below_alloc | apply pw_below_drewN | apply below_drew1 | refine below_set ?_ GE346.out | refine below_set ?_ GE353.out) | exact HB.out)) hb); clear HO_347000; clear HO_347001; clear HO_347002; clear HO_354003; clear BK346; clear BK353; clear HB; have HO_347000 := n0_; have HO_347001 := n1_; have HO_347002 := n2_; have HO_354003 := n3_; have BK346 := n4_; have BK353 := n5_; have HB := n6_; clear n0_ n1_ n2_ n3_ n4_ n5_ n6_; (try clear hb); (try clear hb2); (try clear hk); (try clear hi)))
                                      go_ret
                                      exact ⟨by first | rfl | (simp [errW_none, errW_some] <;> rfl) | (simp [*, errW_none, errW_some] <;> rfl), by repeat (first | (with_reducible first | exact HB.out | apply below_alloc | apply pw_below_drewN | apply below_drew1 | refine below_set ?_ GE346.out | refine below_set ?_ GE353.out) | exact HB.out)⟩
                                  · rw [if_neg c46] at H
                                    have c46b0 : decide (1 ≤ t345) = false := decide_eq_false c46
                                    clear c46
                                    replace H := Option.bind_eq_some_iff.mp H
                                    obtain ⟨t362, A630, H⟩ := H
                                    replace H : (if (t362 == false) = true then ((selvagelaw13_lives.f k4).bind fun t363 => (some t363)) else (some false)) = some r := H
                                    have A63 := Aside0.mk A630
                                    clear A630
                                    by_cases c64 : (t362 == false) = true
                                    · rw [if_pos c64] at H
                                      have c64b0 : (t362 == false) = true := c64
                                      (try (have c64b1 : decide (t362 = false) = true := by simpa using c64))
                                      (try (have c64b2 : (t362 == false) = true := by simpa using c64))
                                      clear c64
                                      replace H := Option.bind_eq_some_iff.mp H
                                      obtain ⟨t363, A650, H⟩ := H
                                      replace H : (some t363) = some r := H
                                      have A65 := Aside0.mk A650
                                      clear A650
                                      obtain rfl := Option.some.inj H
                                      have hnb66 := NB346_353.out
                                      have hnc66 := NB353_346.out
                                      have hcz67_0 : wr.cell? ⟨gb346, 0, none⟩ = some (u347000) := (blk_cell BK346.out 0).trans rfl
                                      have hcz67_1 : wr.cell? ⟨gb346, 1, none⟩ = some (u347001) := (blk_cell BK346.out 1).trans rfl
                                      have hcz67_2 : wr.cell? ⟨gb346, 2, none⟩ = some (u347002) := (blk_cell BK346.out 2).trans rfl
                                      have hcz67_3 : wr.cell? ⟨gb346, 3, none⟩ = some (.int .i64 0) := (blk_cell BK346.out 3).trans rfl
                                      have hfz67_0 := blk_frozen BK346.out 0
                                      have hfz67_1 := blk_frozen BK346.out 1
                                      have hfz67_2 := blk_frozen BK346.out 2
                                      have hfz67_3 := blk_frozen BK346.out 3
                                      obtain ⟨Ao68, co68, eo68⟩ := Kd.N_slice HO_347000.out
                                      subst eo68
                                      obtain ⟨Ao69, co69, eo69⟩ := Kd.R_slice HO_347001.out
                                      subst eo69
                                      obtain ⟨Ao70, co70, eo70⟩ := Kd.R_slice HO_347002.out
                                      subst eo70
                                      go_wp2_with (first | ((with_reducible refine gate_callee (f := 13) rfl ?_); refine goesL_ (some 96) rfl rfl Try.func13 (by kernel_rfl) rfl #[.agg #[.slice Ao68 x347000_4.length co68, .slice Ao69 x347001_1.length co69, .slice Ao70 x347002_2.length co70, .int .i64 0]] rfl (by (try simp only [List.map_toArray, List.map_cons, List.map_nil]); first | done | rfl | (simp only [List.length_drop, List.length_take]; rfl)) ?_; (with_reducible refine (code_May.calls k4 _ _ x347000_4 _ _ x347001_1 _ _ x347002_2 0 t362 _ ?side1 ?side2 ?side3 ?side4 ?side5 ?side6 A63.out).mono ?_); (case side1 => repeat (first | exact (Kd.N_reads' HO_347000.out).2.2 | (with_reducible refine Kd.C_alloc ?_ _) | (with_reducible refine Kd.C_drewN ?_ _) | (with_reducible refine Kd.C_drew ?_))); (case side2 => exact (Kd.N_reads' HO_347000.out).2.1); (case side3 => repeat (first | exact (Kd.R_reads' HO_347001.out).2.2 | (with_reducible refine Kd.C_alloc ?_ _) | (with_reducible refine Kd.C_drewN ?_ _) | (with_reducible refine Kd.C_drew ?_))); (case side4 => exact (Kd.R_reads' HO_347001.out).2.1); (case side5 => repeat (first | exact (Kd.R_reads' HO_347002.out).2.2 | (with_reducible refine Kd.C_alloc ?_ _) | (with_reducible refine Kd.C_drewN ?_ _) | (with_reducible refine Kd.C_drew ?_))); (case side6 => exact (Kd.R_reads' HO_347002.out).2.1); rintro e w71 ⟨rfl, hb⟩; refine ⟨_, rfl, ?_⟩; have n0_ := Aside0.mk (Kd.N_below (by (with_reducible repeat (first | apply Kd.N_alloc | apply Kd.N_drewN | apply Kd.N_drew)); exact HO_347000.out) hb); have n1_ := Aside0.mk (Kd.R_below (by (with_reducible repeat (first | apply Kd.R_alloc | apply Kd.R_drewN | apply Kd.R_drew)); exact HO_347001.out) hb); have n2_ := Aside0.mk (Kd.R_below (by (with_reducible repeat (first | apply Kd.R_alloc | apply Kd.R_drewN | apply Kd.R_drew)); exact HO_347002.out) hb); have n3_ := Aside0.mk (Kd.R_below (by (with_reducible repeat (first | apply Kd.R_alloc | apply Kd.R_drewN | apply Kd.R_drew)); exact HO_354003.out) hb); have n4_ := Aside0.mk (blk_below (g := gb346) (o := .cells #[.slice Ao68 x347000_4.length co68, .slice Ao69 x347001_1.length co69, .slice Ao70 x347002_2.length co70, .int .i64 0] 26 (0, 0)) (by (with_reducible repeat (first | refine blk_drewN ?_ _ | refine blk_drew ?_ | refine blk_alloc ?_ _)); exact BK346.out) hb); have n5_ := Aside0.mk (blk_below (g := gb353) (o := .cells #[.int .i64 0, .int .i64 0, .int .i64 1, u354003] 40 (0, 0)) (by (with_reducible repeat (first | refine blk_drewN ?_ _ | refine blk_drew ?_ | refine blk_alloc ?_ _)); exact BK353.out) hb); have n6_ := Aside0.mk (below_step (by repeat (first | (with_reducible first | exact HB.out | apply below_alloc | apply pw_below_drewN | apply below_drew1 | refine below_set ?_ GE346.out | refine below_set ?_ GE353.out) | exact HB.out)) hb); clear HO_347000; clear HO_347001; clear HO_347002; clear HO_354003; clear BK346; clear BK353; clear HB; have HO_347000 := n0_; have HO_347001 := n1_; have HO_347002 := n2_; have HO_354003 := n3_; have BK346 := n4_; have BK353 := n5_; have HB := n6_; clear n0_ n1_ n2_ n3_ n4_ n5_ n6_; (try clear hb); (try clear hb2); (try clear hk); (try clear hi)) | (go_at_call 15; (with_reducible refine (selvagelaw13_lives.calls k4  t363 _ A65.out).mono ?_); rintro e w72 ⟨rfl, hb⟩; have n0_ := Aside0.mk (Kd.N_below (by (with_reducible repeat (first | apply Kd.N_alloc | apply Kd.N_drewN | apply Kd.N_drew)); exact HO_347000.out) hb); have n1_ := Aside0.mk (Kd.R_below (by (with_reducible repeat (first | apply Kd.R_alloc | apply Kd.R_drewN | apply Kd.R_drew)); exact HO_347001.out) hb); have n2_ := Aside0.mk (Kd.R_below (by (with_reducible repeat (first | apply Kd.R_alloc | apply Kd.R_drewN | apply Kd.R_drew)); exact HO_347002.out) hb); have n3_ := Aside0.mk (Kd.R_below (by (with_reducible repeat (first | apply Kd.R_alloc | apply Kd.R_drewN | apply Kd.R_drew)); exact HO_354003.out) hb); have n4_ := Aside0.mk (blk_below (g := gb346) (o := .cells #[.slice Ao68 x347000_4.length co68, .slice Ao69 x347001_1.length co69, .slice Ao70 x347002_2.length co70, .int .i64 0] 26 (0, 0)) (by (with_reducible repeat (first | refine blk_drewN ?_ _ | refine blk_drew ?_ | refine blk_alloc ?_ _)); exact BK346.out) hb); have n5_ := Aside0.mk (blk_below (g := gb353) (o := .cells #[.int .i64 0, .int .i64 0, .int .i64 1, u354003] 40 (0, 0)) (by (with_reducible repeat (first | refine blk_drewN ?_ _ | refine blk_drew ?_ | refine blk_alloc ?_ _)); exact BK353.out) hb); have n6_ := Aside0.mk (below_step (by repeat (first | (with_reducible first | exact HB.out | apply below_alloc | apply pw_below_drewN | apply below_drew1 | refine below_set ?_ GE346.out | refine below_set ?_ GE353.out) | exact HB.out)) hb); clear HO_347000; clear HO_347001; clear HO_347002; clear HO_354003; clear BK346; clear BK353; clear HB; have HO_347000 := n0_; have HO_347001 := n1_; have HO_347002 := n2_; have HO_354003 := n3_; have BK346 := n4_; have BK353 := n5_; have HB := n6_; clear n0_ n1_ n2_ n3_ n4_ n5_ n6_; (try clear hb); (try clear hb2); (try clear hk); (try clear hi)))
                                      go_ret
                                      exact ⟨by first | rfl | (simp [errW_none, errW_some] <;> rfl) | (simp [*, errW_none, errW_some] <;> rfl), by repeat (first | (with_reducible first | exact HB.out | apply below_alloc | apply pw_below_drewN | apply below_drew1 | refine below_set ?_ GE346.out | refine below_set ?_ GE353.out) | exact HB.out)⟩
                                    · rw [if_neg c64] at H
                                      have c64b0 : (t362 == false) = false := by simpa using c64
                                      (try (have c64b1 : decide (t362 = false) = false := by simpa using c64))
                                      (try (have c64b2 : (t362 == false) = false := by simpa using c64))
                                      (try (have c64b3 : ¬ (t362 = false) := by simpa using c64))
                                      clear c64
                                      obtain rfl := Option.some.inj H
                                      have hnb73 := NB346_353.out
                                      have hnc73 := NB353_346.out
                                      have hcz74_0 : wr.cell? ⟨gb346, 0, none⟩ = some (u347000) := (blk_cell BK346.out 0).trans rfl
                                      have hcz74_1 : wr.cell? ⟨gb346, 1, none⟩ = some (u347001) := (blk_cell BK346.out 1).trans rfl
                                      have hcz74_2 : wr.cell? ⟨gb346, 2, none⟩ = some (u347002) := (blk_cell BK346.out 2).trans rfl
                                      have hcz74_3 : wr.cell? ⟨gb346, 3, none⟩ = some (.int .i64 0) := (blk_cell BK346.out 3).trans rfl
                                      have hfz74_0 := blk_frozen BK346.out 0
                                      have hfz74_1 := blk_frozen BK346.out 1
                                      have hfz74_2 := blk_frozen BK346.out 2
                                      have hfz74_3 := blk_frozen BK346.out 3
                                      obtain ⟨Ao75, co75, eo75⟩ := Kd.N_slice HO_347000.out
                                      subst eo75
                                      obtain ⟨Ao76, co76, eo76⟩ := Kd.R_slice HO_347001.out
                                      subst eo76
                                      obtain ⟨Ao77, co77, eo77⟩ := Kd.R_slice HO_347002.out
                                      subst eo77
                                      go_wp2_with (first | ((with_reducible refine gate_callee (f := 13) rfl ?_); refine goesL_ (some 96) rfl rfl Try.func13 (by kernel_rfl) rfl #[.agg #[.slice Ao75 x347000_4.length co75, .slice Ao76 x347001_1.length co76, .slice Ao77 x347002_2.length co77, .int .i64 0]] rfl (by (try simp only [List.map_toArray, List.map_cons, List.map_nil]); first | done | rfl | (simp only [List.length_drop, List.length_take]; rfl)) ?_; (with_reducible refine (code_May.calls k4 _ _ x347000_4 _ _ x347001_1 _ _ x347002_2 0 t362 _ ?side1 ?side2 ?side3 ?side4 ?side5 ?side6 A63.out).mono ?_); (case side1 => repeat (first | exact (Kd.N_reads' HO_347000.out).2.2 | (with_reducible refine Kd.C_alloc ?_ _) | (with_reducible refine Kd.C_drewN ?_ _) | (with_reducible refine Kd.C_drew ?_))); (case side2 => exact (Kd.N_reads' HO_347000.out).2.1); (case side3 => repeat (first | exact (Kd.R_reads' HO_347001.out).2.2 | (with_reducible refine Kd.C_alloc ?_ _) | (with_reducible refine Kd.C_drewN ?_ _) | (with_reducible refine Kd.C_drew ?_))); (case side4 => exact (Kd.R_reads' HO_347001.out).2.1); (case side5 => repeat (first | exact (Kd.R_reads' HO_347002.out).2.2 | (with_reducible refine Kd.C_alloc ?_ _) | (with_reducible refine Kd.C_drewN ?_ _) | (with_reducible refine Kd.C_drew ?_))); (case side6 => exact (Kd.R_reads' HO_347002.out).2.1); rintro e w78 ⟨rfl, hb⟩; refine ⟨_, rfl, ?_⟩; have n0_ := Aside0.mk (Kd.N_below (by (with_reducible repeat (first | apply Kd.N_alloc | apply Kd.N_drewN | apply Kd.N_drew)); exact HO_347000.out) hb); have n1_ := Aside0.mk (Kd.R_below (by (with_reducible repeat (first | apply Kd.R_alloc | apply Kd.R_drewN | apply Kd.R_drew)); exact HO_347001.out) hb); have n2_ := Aside0.mk (Kd.R_below (by (with_reducible repeat (first | apply Kd.R_alloc | apply Kd.R_drewN | apply Kd.R_drew)); exact HO_347002.out) hb); have n3_ := Aside0.mk (Kd.R_below (by (with_reducible repeat (first | apply Kd.R_alloc | apply Kd.R_drewN | apply Kd.R_drew)); exact HO_354003.out) hb); have n4_ := Aside0.mk (blk_below (g := gb346) (o := .cells #[.slice Ao75 x347000_4.length co75, .slice Ao76 x347001_1.length co76, .slice Ao77 x347002_2.length co77, .int .i64 0] 26 (0, 0)) (by (with_reducible repeat (first | refine blk_drewN ?_ _ | refine blk_drew ?_ | refine blk_alloc ?_ _)); exact BK346.out) hb); have n5_ := Aside0.mk (blk_below (g := gb353) (o := .cells #[.int .i64 0, .int .i64 0, .int .i64 1, u354003] 40 (0, 0)) (by (with_reducible repeat (first | refine blk_drewN ?_ _ | refine blk_drew ?_ | refine blk_alloc ?_ _)); exact BK353.out) hb); have n6_ := Aside0.mk (below_step (by repeat (first | (with_reducible first | exact HB.out | apply below_alloc | apply pw_below_drewN | apply below_drew1 | refine below_set ?_ GE346.out | refine below_set ?_ GE353.out) | exact HB.out)) hb); clear HO_347000; clear HO_347001; clear HO_347002; clear HO_354003; clear BK346; clear BK353; clear HB; have HO_347000 := n0_; have HO_347001 := n1_; have HO_347002 := n2_; have HO_354003 := n3_; have BK346 := n4_; have BK353 := n5_; have HB := n6_; clear n0_ n1_ n2_ n3_ n4_ n5_ n6_; (try clear hb); (try clear hb2); (try clear hk); (try clear hi)))
                                      go_ret
                                      exact ⟨by first | rfl | (simp [errW_none, errW_some] <;> rfl) | (simp [*, errW_none, errW_some] <;> rfl), by repeat (first | (with_reducible first | exact HB.out | apply below_alloc | apply pw_below_drewN | apply below_drew1 | refine below_set ?_ GE346.out | refine below_set ?_ GE353.out) | exact HB.out)⟩
                                · rw [if_neg c45] at H
                                  have c45b0 : decide (t344 ≤ 120) = false := decide_eq_false c45
                                  clear c45
                                  replace H := Option.bind_eq_some_iff.mp H
                                  obtain ⟨t364, A790, H⟩ := H
                                  replace H : (if (t364 == false) = true then ((selvagelaw13_lives.f k4).bind fun t365 => (some t365)) else (some false)) = some r := H
                                  have A79 := Aside0.mk A790
                                  clear A790
                                  by_cases c80 : (t364 == false) = true
                                  · rw [if_pos c80] at H
                                    have c80b0 : (t364 == false) = true := c80
                                    (try (have c80b1 : decide (t364 = false) = true := by simpa using c80))
                                    (try (have c80b2 : (t364 == false) = true := by simpa using c80))
                                    clear c80
                                    replace H := Option.bind_eq_some_iff.mp H
                                    obtain ⟨t365, A810, H⟩ := H
                                    replace H : (some t365) = some r := H
                                    have A81 := Aside0.mk A810
                                    clear A810
                                    obtain rfl := Option.some.inj H
                                    have hnb82 := NB346_353.out
                                    have hnc82 := NB353_346.out
                                    have hcz83_0 : wr.cell? ⟨gb346, 0, none⟩ = some (u347000) := (blk_cell BK346.out 0).trans rfl
                                    have hcz83_1 : wr.cell? ⟨gb346, 1, none⟩ = some (u347001) := (blk_cell BK346.out 1).trans rfl
                                    have hcz83_2 : wr.cell? ⟨gb346, 2, none⟩ = some (u347002) := (blk_cell BK346.out 2).trans rfl
                                    have hcz83_3 : wr.cell? ⟨gb346, 3, none⟩ = some (.int .i64 0) := (blk_cell BK346.out 3).trans rfl
                                    have hfz83_0 := blk_frozen BK346.out 0
                                    have hfz83_1 := blk_frozen BK346.out 1
                                    have hfz83_2 := blk_frozen BK346.out 2
                                    have hfz83_3 := blk_frozen BK346.out 3
                                    obtain ⟨Ao84, co84, eo84⟩ := Kd.N_slice HO_347000.out
                                    subst eo84
                                    obtain ⟨Ao85, co85, eo85⟩ := Kd.R_slice HO_347001.out
                                    subst eo85
                                    obtain ⟨Ao86, co86, eo86⟩ := Kd.R_slice HO_347002.out
                                    subst eo86
                                    go_wp2_with (first | ((with_reducible refine gate_callee (f := 13) rfl ?_); refine goesL_ (some 96) rfl rfl Try.func13 (by kernel_rfl) rfl #[.agg #[.slice Ao84 x347000_4.length co84, .slice Ao85 x347001_1.length co85, .slice Ao86 x347002_2.length co86, .int .i64 0]] rfl (by (try simp only [List.map_toArray, List.map_cons, List.map_nil]); first | done | rfl | (simp only [List.length_drop, List.length_take]; rfl)) ?_; (with_reducible refine (code_May.calls k4 _ _ x347000_4 _ _ x347001_1 _ _ x347002_2 0 t364 _ ?side1 ?side2 ?side3 ?side4 ?side5 ?side6 A79.out).mono ?_); (case side1 => repeat (first | exact (Kd.N_reads' HO_347000.out).2.2 | (with_reducible refine Kd.C_alloc ?_ _) | (with_reducible refine Kd.C_drewN ?_ _) | (with_reducible refine Kd.C_drew ?_))); (case side2 => exact (Kd.N_reads' HO_347000.out).2.1); (case side3 => repeat (first | exact (Kd.R_reads' HO_347001.out).2.2 | (with_reducible refine Kd.C_alloc ?_ _) | (with_reducible refine Kd.C_drewN ?_ _) | (with_reducible refine Kd.C_drew ?_))); (case side4 => exact (Kd.R_reads' HO_347001.out).2.1); (case side5 => repeat (first | exact (Kd.R_reads' HO_347002.out).2.2 | (with_reducible refine Kd.C_alloc ?_ _) | (with_reducible refine Kd.C_drewN ?_ _) | (with_reducible refine Kd.C_drew ?_))); (case side6 => exact (Kd.R_reads' HO_347002.out).2.1); rintro e w87 ⟨rfl, hb⟩; refine ⟨_, rfl, ?_⟩; have n0_ := Aside0.mk (Kd.N_below (by (with_reducible repeat (first | apply Kd.N_alloc | apply Kd.N_drewN | apply Kd.N_drew)); exact HO_347000.out) hb); have n1_ := Aside0.mk (Kd.R_below (by (with_reducible repeat (first | apply Kd.R_alloc | apply Kd.R_drewN | apply Kd.R_drew)); exact HO_347001.out) hb); have n2_ := Aside0.mk (Kd.R_below (by (with_reducible repeat (first | apply Kd.R_alloc | apply Kd.R_drewN | apply Kd.R_drew)); exact HO_347002.out) hb); have n3_ := Aside0.mk (Kd.R_below (by (with_reducible repeat (first | apply Kd.R_alloc | apply Kd.R_drewN | apply Kd.R_drew)); exact HO_354003.out) hb); have n4_ := Aside0.mk (blk_below (g := gb346) (o := .cells #[.slice Ao84 x347000_4.length co84, .slice Ao85 x347001_1.length co85, .slice Ao86 x347002_2.length co86, .int .i64 0] 26 (0, 0)) (by (with_reducible repeat (first | refine blk_drewN ?_ _ | refine blk_drew ?_ | refine blk_alloc ?_ _)); exact BK346.out) hb); have n5_ := Aside0.mk (blk_below (g := gb353) (o := .cells #[.int .i64 0, .int .i64 0, .int .i64 1, u354003] 40 (0, 0)) (by (with_reducible repeat (first | refine blk_drewN ?_ _ | refine blk_drew ?_ | refine blk_alloc ?_ _)); exact BK353.out) hb); have n6_ := Aside0.mk (below_step (by repeat (first | (with_reducible first | exact HB.out | apply below_alloc | apply pw_below_drewN | apply below_drew1 | refine below_set ?_ GE346.out | refine below_set ?_ GE353.out) | exact HB.out)) hb); clear HO_347000; clear HO_347001; clear HO_347002; clear HO_354003; clear BK346; clear BK353; clear HB; have HO_347000 := n0_; have HO_347001 := n1_; have HO_347002 := n2_; have HO_354003 := n3_; have BK346 := n4_; have BK353 := n5_; have HB := n6_; clear n0_ n1_ n2_ n3_ n4_ n5_ n6_; (try clear hb); (try clear hb2); (try clear hk); (try clear hi)) | (go_at_call 15; (with_reducible refine (selvagelaw13_lives.calls k4  t365 _ A81.out).mono ?_); rintro e w88 ⟨rfl, hb⟩; have n0_ := Aside0.mk (Kd.N_below (by (with_reducible repeat (first | apply Kd.N_alloc | apply Kd.N_drewN | apply Kd.N_drew)); exact HO_347000.out) hb); have n1_ := Aside0.mk (Kd.R_below (by (with_reducible repeat (first | apply Kd.R_alloc | apply Kd.R_drewN | apply Kd.R_drew)); exact HO_347001.out) hb); have n2_ := Aside0.mk (Kd.R_below (by (with_reducible repeat (first | apply Kd.R_alloc | apply Kd.R_drewN | apply Kd.R_drew)); exact HO_347002.out) hb); have n3_ := Aside0.mk (Kd.R_below (by (with_reducible repeat (first | apply Kd.R_alloc | apply Kd.R_drewN | apply Kd.R_drew)); exact HO_354003.out) hb); have n4_ := Aside0.mk (blk_below (g := gb346) (o := .cells #[.slice Ao84 x347000_4.length co84, .slice Ao85 x347001_1.length co85, .slice Ao86 x347002_2.length co86, .int .i64 0] 26 (0, 0)) (by (with_reducible repeat (first | refine blk_drewN ?_ _ | refine blk_drew ?_ | refine blk_alloc ?_ _)); exact BK346.out) hb); have n5_ := Aside0.mk (blk_below (g := gb353) (o := .cells #[.int .i64 0, .int .i64 0, .int .i64 1, u354003] 40 (0, 0)) (by (with_reducible repeat (first | refine blk_drewN ?_ _ | refine blk_drew ?_ | refine blk_alloc ?_ _)); exact BK353.out) hb); have n6_ := Aside0.mk (below_step (by repeat (first | (with_reducible first | exact HB.out | apply below_alloc | apply pw_below_drewN | apply below_drew1 | refine below_set ?_ GE346.out | refine below_set ?_ GE353.out) | exact HB.out)) hb); clear HO_347000; clear HO_347001; clear HO_347002; clear HO_354003; clear BK346; clear BK353; clear HB; have HO_347000 := n0_; have HO_347001 := n1_; have HO_347002 := n2_; have HO_354003 := n3_; have BK346 := n4_; have BK353 := n5_; have HB := n6_; clear n0_ n1_ n2_ n3_ n4_ n5_ n6_; (try clear hb); (try clear hb2); (try clear hk); (try clear hi)))
                                    go_ret
                                    exact ⟨by first | rfl | (simp [errW_none, errW_some] <;> rfl) | (simp [*, errW_none, errW_some] <;> rfl), by repeat (first | (with_reducible first | exact HB.out | apply below_alloc | apply pw_below_drewN | apply below_drew1 | refine below_set ?_ GE346.out | refine below_set ?_ GE353.out) | exact HB.out)⟩
                                  · rw [if_neg c80] at H
                                    have c80b0 : (t364 == false) = false := by simpa using c80
                                    (try (have c80b1 : decide (t364 = false) = false := by simpa using c80))
                                    (try (have c80b2 : (t364 == false) = false := by simpa using c80))
                                    (try (have c80b3 : ¬ (t364 = false) := by simpa using c80))
                                    clear c80
                                    obtain rfl := Option.some.inj H
                                    have hnb89 := NB346_353.out
                                    have hnc89 := NB353_346.out
                                    have hcz90_0 : wr.cell? ⟨gb346, 0, none⟩ = some (u347000) := (blk_cell BK346.out 0).trans rfl
                                    have hcz90_1 : wr.cell? ⟨gb346, 1, none⟩ = some (u347001) := (blk_cell BK346.out 1).trans rfl
                                    have hcz90_2 : wr.cell? ⟨gb346, 2, none⟩ = some (u347002) := (blk_cell BK346.out 2).trans rfl
                                    have hcz90_3 : wr.cell? ⟨gb346, 3, none⟩ = some (.int .i64 0) := (blk_cell BK346.out 3).trans rfl
                                    have hfz90_0 := blk_frozen BK346.out 0
                                    have hfz90_1 := blk_frozen BK346.out 1
                                    have hfz90_2 := blk_frozen BK346.out 2
                                    have hfz90_3 := blk_frozen BK346.out 3
                                    obtain ⟨Ao91, co91, eo91⟩ := Kd.N_slice HO_347000.out
                                    subst eo91
                                    obtain ⟨Ao92, co92, eo92⟩ := Kd.R_slice HO_347001.out
                                    subst eo92
                                    obtain ⟨Ao93, co93, eo93⟩ := Kd.R_slice HO_347002.out
                                    subst eo93
                                    go_wp2_with (first | ((with_reducible refine gate_callee (f := 13) rfl ?_); refine goesL_ (some 96) rfl rfl Try.func13 (by kernel_rfl) rfl #[.agg #[.slice Ao91 x347000_4.length co91, .slice Ao92 x347001_1.length co92, .slice Ao93 x347002_2.length co93, .int .i64 0]] rfl (by (try simp only [List.map_toArray, List.map_cons, List.map_nil]); first | done | rfl | (simp only [List.length_drop, List.length_take]; rfl)) ?_; (with_reducible refine (code_May.calls k4 _ _ x347000_4 _ _ x347001_1 _ _ x347002_2 0 t364 _ ?side1 ?side2 ?side3 ?side4 ?side5 ?side6 A79.out).mono ?_); (case side1 => repeat (first | exact (Kd.N_reads' HO_347000.out).2.2 | (with_reducible refine Kd.C_alloc ?_ _) | (with_reducible refine Kd.C_drewN ?_ _) | (with_reducible refine Kd.C_drew ?_))); (case side2 => exact (Kd.N_reads' HO_347000.out).2.1); (case side3 => repeat (first | exact (Kd.R_reads' HO_347001.out).2.2 | (with_reducible refine Kd.C_alloc ?_ _) | (with_reducible refine Kd.C_drewN ?_ _) | (with_reducible refine Kd.C_drew ?_))); (case side4 => exact (Kd.R_reads' HO_347001.out).2.1); (case side5 => repeat (first | exact (Kd.R_reads' HO_347002.out).2.2 | (with_reducible refine Kd.C_alloc ?_ _) | (with_reducible refine Kd.C_drewN ?_ _) | (with_reducible refine Kd.C_drew ?_))); (case side6 => exact (Kd.R_reads' HO_347002.out).2.1); rintro e w94 ⟨rfl, hb⟩; refine ⟨_, rfl, ?_⟩; have n0_ := Aside0.mk (Kd.N_below (by (with_reducible repeat (first | apply Kd.N_alloc | apply Kd.N_drewN | apply Kd.N_drew)); exact HO_347000.out) hb); have n1_ := Aside0.mk (Kd.R_below (by (with_reducible repeat (first | apply Kd.R_alloc | apply Kd.R_drewN | apply Kd.R_drew)); exact HO_347001.out) hb); have n2_ := Aside0.mk (Kd.R_below (by (with_reducible repeat (first | apply Kd.R_alloc | apply Kd.R_drewN | apply Kd.R_drew)); exact HO_347002.out) hb); have n3_ := Aside0.mk (Kd.R_below (by (with_reducible repeat (first | apply Kd.R_alloc | apply Kd.R_drewN | apply Kd.R_drew)); exact HO_354003.out) hb); have n4_ := Aside0.mk (blk_below (g := gb346) (o := .cells #[.slice Ao91 x347000_4.length co91, .slice Ao92 x347001_1.length co92, .slice Ao93 x347002_2.length co93, .int .i64 0] 26 (0, 0)) (by (with_reducible repeat (first | refine blk_drewN ?_ _ | refine blk_drew ?_ | refine blk_alloc ?_ _)); exact BK346.out) hb); have n5_ := Aside0.mk (blk_below (g := gb353) (o := .cells #[.int .i64 0, .int .i64 0, .int .i64 1, u354003] 40 (0, 0)) (by (with_reducible repeat (first | refine blk_drewN ?_ _ | refine blk_drew ?_ | refine blk_alloc ?_ _)); exact BK353.out) hb); have n6_ := Aside0.mk (below_step (by repeat (first | (with_reducible first | exact HB.out | apply below_alloc | apply pw_below_drewN | apply below_drew1 | refine below_set ?_ GE346.out | refine below_set ?_ GE353.out) | exact HB.out)) hb); clear HO_347000; clear HO_347001; clear HO_347002; clear HO_354003; clear BK346; clear BK353; clear HB; have HO_347000 := n0_; have HO_347001 := n1_; have HO_347002 := n2_; have HO_354003 := n3_; have BK346 := n4_; have BK353 := n5_; have HB := n6_; clear n0_ n1_ n2_ n3_ n4_ n5_ n6_; (try clear hb); (try clear hb2); (try clear hk); (try clear hi)))
                                    go_ret
                                    exact ⟨by first | rfl | (simp [errW_none, errW_some] <;> rfl) | (simp [*, errW_none, errW_some] <;> rfl), by repeat (first | (with_reducible first | exact HB.out | apply below_alloc | apply pw_below_drewN | apply below_drew1 | refine below_set ?_ GE346.out | refine below_set ?_ GE353.out) | exact HB.out)⟩
                              · rw [if_neg c44] at H
                                have c44b0 : decide (t343 ≤ 120) = false := decide_eq_false c44
                                clear c44
                                replace H := Option.bind_eq_some_iff.mp H
                                obtain ⟨t366, A950, H⟩ := H
                                replace H : (if (t366 == false) = true then ((selvagelaw13_lives.f k4).bind fun t367 => (some t367)) else (some false)) = some r := H
                                have A95 := Aside0.mk A950
                                clear A950
                                by_cases c96 : (t366 == false) = true
                                · rw [if_pos c96] at H
                                  have c96b0 : (t366 == false) = true := c96
                                  (try (have c96b1 : decide (t366 = false) = true := by simpa using c96))
                                  (try (have c96b2 : (t366 == false) = true := by simpa using c96))
                                  clear c96
                                  replace H := Option.bind_eq_some_iff.mp H
                                  obtain ⟨t367, A970, H⟩ := H
                                  replace H : (some t367) = some r := H
                                  have A97 := Aside0.mk A970
                                  clear A970
                                  obtain rfl := Option.some.inj H
                                  have hnb98 := NB346_353.out
                                  have hnc98 := NB353_346.out
                                  have hcz99_0 : wr.cell? ⟨gb346, 0, none⟩ = some (u347000) := (blk_cell BK346.out 0).trans rfl
                                  have hcz99_1 : wr.cell? ⟨gb346, 1, none⟩ = some (u347001) := (blk_cell BK346.out 1).trans rfl
                                  have hcz99_2 : wr.cell? ⟨gb346, 2, none⟩ = some (u347002) := (blk_cell BK346.out 2).trans rfl
                                  have hcz99_3 : wr.cell? ⟨gb346, 3, none⟩ = some (.int .i64 0) := (blk_cell BK346.out 3).trans rfl
                                  have hfz99_0 := blk_frozen BK346.out 0
                                  have hfz99_1 := blk_frozen BK346.out 1
                                  have hfz99_2 := blk_frozen BK346.out 2
                                  have hfz99_3 := blk_frozen BK346.out 3
                                  obtain ⟨Ao100, co100, eo100⟩ := Kd.N_slice HO_347000.out
                                  subst eo100
                                  obtain ⟨Ao101, co101, eo101⟩ := Kd.R_slice HO_347001.out
                                  subst eo101
                                  obtain ⟨Ao102, co102, eo102⟩ := Kd.R_slice HO_347002.out
                                  subst eo102
                                  go_wp2_with (first | ((with_reducible refine gate_callee (f := 13) rfl ?_); refine goesL_ (some 96) rfl rfl Try.func13 (by kernel_rfl) rfl #[.agg #[.slice Ao100 x347000_4.length co100, .slice Ao101 x347001_1.length co101, .slice Ao102 x347002_2.length co102, .int .i64 0]] rfl (by (try simp only [List.map_toArray, List.map_cons, List.map_nil]); first | done | rfl | (simp only [List.length_drop, List.length_take]; rfl)) ?_; (with_reducible refine (code_May.calls k4 _ _ x347000_4 _ _ x347001_1 _ _ x347002_2 0 t366 _ ?side1 ?side2 ?side3 ?side4 ?side5 ?side6 A95.out).mono ?_); (case side1 => repeat (first | exact (Kd.N_reads' HO_347000.out).2.2 | (with_reducible refine Kd.C_alloc ?_ _) | (with_reducible refine Kd.C_drewN ?_ _) | (with_reducible refine Kd.C_drew ?_))); (case side2 => exact (Kd.N_reads' HO_347000.out).2.1); (case side3 => repeat (first | exact (Kd.R_reads' HO_347001.out).2.2 | (with_reducible refine Kd.C_alloc ?_ _) | (with_reducible refine Kd.C_drewN ?_ _) | (with_reducible refine Kd.C_drew ?_))); (case side4 => exact (Kd.R_reads' HO_347001.out).2.1); (case side5 => repeat (first | exact (Kd.R_reads' HO_347002.out).2.2 | (with_reducible refine Kd.C_alloc ?_ _) | (with_reducible refine Kd.C_drewN ?_ _) | (with_reducible refine Kd.C_drew ?_))); (case side6 => exact (Kd.R_reads' HO_347002.out).2.1); rintro e w103 ⟨rfl, hb⟩; refine ⟨_, rfl, ?_⟩; have n0_ := Aside0.mk (Kd.N_below (by (with_reducible repeat (first | apply Kd.N_alloc | apply Kd.N_drewN | apply Kd.N_drew)); exact HO_347000.out) hb); have n1_ := Aside0.mk (Kd.R_below (by (with_reducible repeat (first | apply Kd.R_alloc | apply Kd.R_drewN | apply Kd.R_drew)); exact HO_347001.out) hb); have n2_ := Aside0.mk (Kd.R_below (by (with_reducible repeat (first | apply Kd.R_alloc | apply Kd.R_drewN | apply Kd.R_drew)); exact HO_347002.out) hb); have n3_ := Aside0.mk (Kd.R_below (by (with_reducible repeat (first | apply Kd.R_alloc | apply Kd.R_drewN | apply Kd.R_drew)); exact HO_354003.out) hb); have n4_ := Aside0.mk (blk_below (g := gb346) (o := .cells #[.slice Ao100 x347000_4.length co100, .slice Ao101 x347001_1.length co101, .slice Ao102 x347002_2.length co102, .int .i64 0] 26 (0, 0)) (by (with_reducible repeat (first | refine blk_drewN ?_ _ | refine blk_drew ?_ | refine blk_alloc ?_ _)); exact BK346.out) hb); have n5_ := Aside0.mk (blk_below (g := gb353) (o := .cells #[.int .i64 0, .int .i64 0, .int .i64 1, u354003] 40 (0, 0)) (by (with_reducible repeat (first | refine blk_drewN ?_ _ | refine blk_drew ?_ | refine blk_alloc ?_ _)); exact BK353.out) hb); have n6_ := Aside0.mk (below_step (by repeat (first | (with_reducible first | exact HB.out | apply below_alloc | apply pw_below_drewN | apply below_drew1 | refine below_set ?_ GE346.out | refine below_set ?_ GE353.out) | exact HB.out)) hb); clear HO_347000; clear HO_347001; clear HO_347002; clear HO_354003; clear BK346; clear BK353; clear HB; have HO_347000 := n0_; have HO_347001 := n1_; have HO_347002 := n2_; have HO_354003 := n3_; have BK346 := n4_; have BK353 := n5_; have HB := n6_; clear n0_ n1_ n2_ n3_ n4_ n5_ n6_; (try clear hb); (try clear hb2); (try clear hk); (try clear hi)) | (go_at_call 15; (with_reducible refine (selvagelaw13_lives.calls k4  t367 _ A97.out).mono ?_); rintro e w104 ⟨rfl, hb⟩; have n0_ := Aside0.mk (Kd.N_below (by (with_reducible repeat (first | apply Kd.N_alloc | apply Kd.N_drewN | apply Kd.N_drew)); exact HO_347000.out) hb); have n1_ := Aside0.mk (Kd.R_below (by (with_reducible repeat (first | apply Kd.R_alloc | apply Kd.R_drewN | apply Kd.R_drew)); exact HO_347001.out) hb); have n2_ := Aside0.mk (Kd.R_below (by (with_reducible repeat (first | apply Kd.R_alloc | apply Kd.R_drewN | apply Kd.R_drew)); exact HO_347002.out) hb); have n3_ := Aside0.mk (Kd.R_below (by (with_reducible repeat (first | apply Kd.R_alloc | apply Kd.R_drewN | apply Kd.R_drew)); exact HO_354003.out) hb); have n4_ := Aside0.mk (blk_below (g := gb346) (o := .cells #[.slice Ao100 x347000_4.length co100, .slice Ao101 x347001_1.length co101, .slice Ao102 x347002_2.length co102, .int .i64 0] 26 (0, 0)) (by (with_reducible repeat (first | refine blk_drewN ?_ _ | refine blk_drew ?_ | refine blk_alloc ?_ _)); exact BK346.out) hb); have n5_ := Aside0.mk (blk_below (g := gb353) (o := .cells #[.int .i64 0, .int .i64 0, .int .i64 1, u354003] 40 (0, 0)) (by (with_reducible repeat (first | refine blk_drewN ?_ _ | refine blk_drew ?_ | refine blk_alloc ?_ _)); exact BK353.out) hb); have n6_ := Aside0.mk (below_step (by repeat (first | (with_reducible first | exact HB.out | apply below_alloc | apply pw_below_drewN | apply below_drew1 | refine below_set ?_ GE346.out | refine below_set ?_ GE353.out) | exact HB.out)) hb); clear HO_347000; clear HO_347001; clear HO_347002; clear HO_354003; clear BK346; clear BK353; clear HB; have HO_347000 := n0_; have HO_347001 := n1_; have HO_347002 := n2_; have HO_354003 := n3_; have BK346 := n4_; have BK353 := n5_; have HB := n6_; clear n0_ n1_ n2_ n3_ n4_ n5_ n6_; (try clear hb); (try clear hb2); (try clear hk); (try clear hi)))
                                  go_ret
                                  exact ⟨by first | rfl | (simp [errW_none, errW_some] <;> rfl) | (simp [*, errW_none, errW_some] <;> rfl), by repeat (first | (with_reducible first | exact HB.out | apply below_alloc | apply pw_below_drewN | apply below_drew1 | refine below_set ?_ GE346.out | refine below_set ?_ GE353.out) | exact HB.out)⟩
                                · rw [if_neg c96] at H
                                  have c96b0 : (t366 == false) = false := by simpa using c96
                                  (try (have c96b1 : decide (t366 = false) = false := by simpa using c96))
                                  (try (have c96b2 : (t366 == false) = false := by simpa using c96))
                                  (try (have c96b3 : ¬ (t366 = false) := by simpa using c96))
                                  clear c96
                                  obtain rfl := Option.some.inj H
                                  have hnb105 := NB346_353.out
                                  have hnc105 := NB353_346.out
                                  have hcz106_0 : wr.cell? ⟨gb346, 0, none⟩ = some (u347000) := (blk_cell BK346.out 0).trans rfl
                                  have hcz106_1 : wr.cell? ⟨gb346, 1, none⟩ = some (u347001) := (blk_cell BK346.out 1).trans rfl
                                  have hcz106_2 : wr.cell? ⟨gb346, 2, none⟩ = some (u347002) := (blk_cell BK346.out 2).trans rfl
                                  have hcz106_3 : wr.cell? ⟨gb346, 3, none⟩ = some (.int .i64 0) := (blk_cell BK346.out 3).trans rfl
                                  have hfz106_0 := blk_frozen BK346.out 0
                                  have hfz106_1 := blk_frozen BK346.out 1
                                  have hfz106_2 := blk_frozen BK346.out 2
                                  have hfz106_3 := blk_frozen BK346.out 3
                                  obtain ⟨Ao107, co107, eo107⟩ := Kd.N_slice HO_347000.out
                                  subst eo107
                                  obtain ⟨Ao108, co108, eo108⟩ := Kd.R_slice HO_347001.out
                                  subst eo108
                                  obtain ⟨Ao109, co109, eo109⟩ := Kd.R_slice HO_347002.out
                                  subst eo109
                                  go_wp2_with (first | ((with_reducible refine gate_callee (f := 13) rfl ?_); refine goesL_ (some 96) rfl rfl Try.func13 (by kernel_rfl) rfl #[.agg #[.slice Ao107 x347000_4.length co107, .slice Ao108 x347001_1.length co108, .slice Ao109 x347002_2.length co109, .int .i64 0]] rfl (by (try simp only [List.map_toArray, List.map_cons, List.map_nil]); first | done | rfl | (simp only [List.length_drop, List.length_take]; rfl)) ?_; (with_reducible refine (code_May.calls k4 _ _ x347000_4 _ _ x347001_1 _ _ x347002_2 0 t366 _ ?side1 ?side2 ?side3 ?side4 ?side5 ?side6 A95.out).mono ?_); (case side1 => repeat (first | exact (Kd.N_reads' HO_347000.out).2.2 | (with_reducible refine Kd.C_alloc ?_ _) | (with_reducible refine Kd.C_drewN ?_ _) | (with_reducible refine Kd.C_drew ?_))); (case side2 => exact (Kd.N_reads' HO_347000.out).2.1); (case side3 => repeat (first | exact (Kd.R_reads' HO_347001.out).2.2 | (with_reducible refine Kd.C_alloc ?_ _) | (with_reducible refine Kd.C_drewN ?_ _) | (with_reducible refine Kd.C_drew ?_))); (case side4 => exact (Kd.R_reads' HO_347001.out).2.1); (case side5 => repeat (first | exact (Kd.R_reads' HO_347002.out).2.2 | (with_reducible refine Kd.C_alloc ?_ _) | (with_reducible refine Kd.C_drewN ?_ _) | (with_reducible refine Kd.C_drew ?_))); (case side6 => exact (Kd.R_reads' HO_347002.out).2.1); rintro e w110 ⟨rfl, hb⟩; refine ⟨_, rfl, ?_⟩; have n0_ := Aside0.mk (Kd.N_below (by (with_reducible repeat (first | apply Kd.N_alloc | apply Kd.N_drewN | apply Kd.N_drew)); exact HO_347000.out) hb); have n1_ := Aside0.mk (Kd.R_below (by (with_reducible repeat (first | apply Kd.R_alloc | apply Kd.R_drewN | apply Kd.R_drew)); exact HO_347001.out) hb); have n2_ := Aside0.mk (Kd.R_below (by (with_reducible repeat (first | apply Kd.R_alloc | apply Kd.R_drewN | apply Kd.R_drew)); exact HO_347002.out) hb); have n3_ := Aside0.mk (Kd.R_below (by (with_reducible repeat (first | apply Kd.R_alloc | apply Kd.R_drewN | apply Kd.R_drew)); exact HO_354003.out) hb); have n4_ := Aside0.mk (blk_below (g := gb346) (o := .cells #[.slice Ao107 x347000_4.length co107, .slice Ao108 x347001_1.length co108, .slice Ao109 x347002_2.length co109, .int .i64 0] 26 (0, 0)) (by (with_reducible repeat (first | refine blk_drewN ?_ _ | refine blk_drew ?_ | refine blk_alloc ?_ _)); exact BK346.out) hb); have n5_ := Aside0.mk (blk_below (g := gb353) (o := .cells #[.int .i64 0, .int .i64 0, .int .i64 1, u354003] 40 (0, 0)) (by (with_reducible repeat (first | refine blk_drewN ?_ _ | refine blk_drew ?_ | refine blk_alloc ?_ _)); exact BK353.out) hb); have n6_ := Aside0.mk (below_step (by repeat (first | (with_reducible first | exact HB.out | apply below_alloc | apply pw_below_drewN | apply below_drew1 | refine below_set ?_ GE346.out | refine below_set ?_ GE353.out) | exact HB.out)) hb); clear HO_347000; clear HO_347001; clear HO_347002; clear HO_354003; clear BK346; clear BK353; clear HB; have HO_347000 := n0_; have HO_347001 := n1_; have HO_347002 := n2_; have HO_354003 := n3_; have BK346 := n4_; have BK353 := n5_; have HB := n6_; clear n0_ n1_ n2_ n3_ n4_ n5_ n6_; (try clear hb); (try clear hb2); (try clear hk); (try clear hi)))
                                  go_ret
                                  exact ⟨by first | rfl | (simp [errW_none, errW_some] <;> rfl) | (simp [*, errW_none, errW_some] <;> rfl), by repeat (first | (with_reducible first | exact HB.out | apply below_alloc | apply pw_below_drewN | apply below_drew1 | refine below_set ?_ GE346.out | refine below_set ?_ GE353.out) | exact HB.out)⟩
                            · rw [if_neg c43] at H
                              have c43b0 : decide (t342 ≤ 120) = false := decide_eq_false c43
                              clear c43
                              replace H := Option.bind_eq_some_iff.mp H
                              obtain ⟨t368, A1110, H⟩ := H
                              replace H : (if (t368 == false) = true then ((selvagelaw13_lives.f k4).bind fun t369 => (some t369)) else (some false)) = some r := H
                              have A111 := Aside0.mk A1110
                              clear A1110
                              by_cases c112 : (t368 == false) = true
                              · rw [if_pos c112] at H
                                have c112b0 : (t368 == false) = true := c112
                                (try (have c112b1 : decide (t368 = false) = true := by simpa using c112))
                                (try (have c112b2 : (t368 == false) = true := by simpa using c112))
                                clear c112
                                replace H := Option.bind_eq_some_iff.mp H
                                obtain ⟨t369, A1130, H⟩ := H
                                replace H : (some t369) = some r := H
                                have A113 := Aside0.mk A1130
                                clear A1130
                                obtain rfl := Option.some.inj H
                                have hnb114 := NB346_353.out
                                have hnc114 := NB353_346.out
                                have hcz115_0 : wr.cell? ⟨gb346, 0, none⟩ = some (u347000) := (blk_cell BK346.out 0).trans rfl
                                have hcz115_1 : wr.cell? ⟨gb346, 1, none⟩ = some (u347001) := (blk_cell BK346.out 1).trans rfl
                                have hcz115_2 : wr.cell? ⟨gb346, 2, none⟩ = some (u347002) := (blk_cell BK346.out 2).trans rfl
                                have hcz115_3 : wr.cell? ⟨gb346, 3, none⟩ = some (.int .i64 0) := (blk_cell BK346.out 3).trans rfl
                                have hfz115_0 := blk_frozen BK346.out 0
                                have hfz115_1 := blk_frozen BK346.out 1
                                have hfz115_2 := blk_frozen BK346.out 2
                                have hfz115_3 := blk_frozen BK346.out 3
                                obtain ⟨Ao116, co116, eo116⟩ := Kd.N_slice HO_347000.out
                                subst eo116
                                obtain ⟨Ao117, co117, eo117⟩ := Kd.R_slice HO_347001.out
                                subst eo117
                                obtain ⟨Ao118, co118, eo118⟩ := Kd.R_slice HO_347002.out
                                subst eo118
                                go_wp2_with (first | ((with_reducible refine gate_callee (f := 13) rfl ?_); refine goesL_ (some 96) rfl rfl Try.func13 (by kernel_rfl) rfl #[.agg #[.slice Ao116 x347000_4.length co116, .slice Ao117 x347001_1.length co117, .slice Ao118 x347002_2.length co118, .int .i64 0]] rfl (by (try simp only [List.map_toArray, List.map_cons, List.map_nil]); first | done | rfl | (simp only [List.length_drop, List.length_take]; rfl)) ?_; (with_reducible refine (code_May.calls k4 _ _ x347000_4 _ _ x347001_1 _ _ x347002_2 0 t368 _ ?side1 ?side2 ?side3 ?side4 ?side5 ?side6 A111.out).mono ?_); (case side1 => repeat (first | exact (Kd.N_reads' HO_347000.out).2.2 | (with_reducible refine Kd.C_alloc ?_ _) | (with_reducible refine Kd.C_drewN ?_ _) | (with_reducible refine Kd.C_drew ?_))); (case side2 => exact (Kd.N_reads' HO_347000.out).2.1); (case side3 => repeat (first | exact (Kd.R_reads' HO_347001.out).2.2 | (with_reducible refine Kd.C_alloc ?_ _) | (with_reducible refine Kd.C_drewN ?_ _) | (with_reducible refine Kd.C_drew ?_))); (case side4 => exact (Kd.R_reads' HO_347001.out).2.1); (case side5 => repeat (first | exact (Kd.R_reads' HO_347002.out).2.2 | (with_reducible refine Kd.C_alloc ?_ _) | (with_reducible refine Kd.C_drewN ?_ _) | (with_reducible refine Kd.C_drew ?_))); (case side6 => exact (Kd.R_reads' HO_347002.out).2.1); rintro e w119 ⟨rfl, hb⟩; refine ⟨_, rfl, ?_⟩; have n0_ := Aside0.mk (Kd.N_below (by (with_reducible repeat (first | apply Kd.N_alloc | apply Kd.N_drewN | apply Kd.N_drew)); exact HO_347000.out) hb); have n1_ := Aside0.mk (Kd.R_below (by (with_reducible repeat (first | apply Kd.R_alloc | apply Kd.R_drewN | apply Kd.R_drew)); exact HO_347001.out) hb); have n2_ := Aside0.mk (Kd.R_below (by (with_reducible repeat (first | apply Kd.R_alloc | apply Kd.R_drewN | apply Kd.R_drew)); exact HO_347002.out) hb); have n3_ := Aside0.mk (Kd.R_below (by (with_reducible repeat (first | apply Kd.R_alloc | apply Kd.R_drewN | apply Kd.R_drew)); exact HO_354003.out) hb); have n4_ := Aside0.mk (blk_below (g := gb346) (o := .cells #[.slice Ao116 x347000_4.length co116, .slice Ao117 x347001_1.length co117, .slice Ao118 x347002_2.length co118, .int .i64 0] 26 (0, 0)) (by (with_reducible repeat (first | refine blk_drewN ?_ _ | refine blk_drew ?_ | refine blk_alloc ?_ _)); exact BK346.out) hb); have n5_ := Aside0.mk (blk_below (g := gb353) (o := .cells #[.int .i64 0, .int .i64 0, .int .i64 1, u354003] 40 (0, 0)) (by (with_reducible repeat (first | refine blk_drewN ?_ _ | refine blk_drew ?_ | refine blk_alloc ?_ _)); exact BK353.out) hb); have n6_ := Aside0.mk (below_step (by repeat (first | (with_reducible first | exact HB.out | apply below_alloc | apply pw_below_drewN | apply below_drew1 | refine below_set ?_ GE346.out | refine below_set ?_ GE353.out) | exact HB.out)) hb); clear HO_347000; clear HO_347001; clear HO_347002; clear HO_354003; clear BK346; clear BK353; clear HB; have HO_347000 := n0_; have HO_347001 := n1_; have HO_347002 := n2_; have HO_354003 := n3_; have BK346 := n4_; have BK353 := n5_; have HB := n6_; clear n0_ n1_ n2_ n3_ n4_ n5_ n6_; (try clear hb); (try clear hb2); (try clear hk); (try clear hi)) | (go_at_call 15; (with_reducible refine (selvagelaw13_lives.calls k4  t369 _ A113.out).mono ?_); rintro e w120 ⟨rfl, hb⟩; have n0_ := Aside0.mk (Kd.N_below (by (with_reducible repeat (first | apply Kd.N_alloc | apply Kd.N_drewN | apply Kd.N_drew)); exact HO_347000.out) hb); have n1_ := Aside0.mk (Kd.R_below (by (with_reducible repeat (first | apply Kd.R_alloc | apply Kd.R_drewN | apply Kd.R_drew)); exact HO_347001.out) hb); have n2_ := Aside0.mk (Kd.R_below (by (with_reducible repeat (first | apply Kd.R_alloc | apply Kd.R_drewN | apply Kd.R_drew)); exact HO_347002.out) hb); have n3_ := Aside0.mk (Kd.R_below (by (with_reducible repeat (first | apply Kd.R_alloc | apply Kd.R_drewN | apply Kd.R_drew)); exact HO_354003.out) hb); have n4_ := Aside0.mk (blk_below (g := gb346) (o := .cells #[.slice Ao116 x347000_4.length co116, .slice Ao117 x347001_1.length co117, .slice Ao118 x347002_2.length co118, .int .i64 0] 26 (0, 0)) (by (with_reducible repeat (first | refine blk_drewN ?_ _ | refine blk_drew ?_ | refine blk_alloc ?_ _)); exact BK346.out) hb); have n5_ := Aside0.mk (blk_below (g := gb353) (o := .cells #[.int .i64 0, .int .i64 0, .int .i64 1, u354003] 40 (0, 0)) (by (with_reducible repeat (first | refine blk_drewN ?_ _ | refine blk_drew ?_ | refine blk_alloc ?_ _)); exact BK353.out) hb); have n6_ := Aside0.mk (below_step (by repeat (first | (with_reducible first | exact HB.out | apply below_alloc | apply pw_below_drewN | apply below_drew1 | refine below_set ?_ GE346.out | refine below_set ?_ GE353.out) | exact HB.out)) hb); clear HO_347000; clear HO_347001; clear HO_347002; clear HO_354003; clear BK346; clear BK353; clear HB; have HO_347000 := n0_; have HO_347001 := n1_; have HO_347002 := n2_; have HO_354003 := n3_; have BK346 := n4_; have BK353 := n5_; have HB := n6_; clear n0_ n1_ n2_ n3_ n4_ n5_ n6_; (try clear hb); (try clear hb2); (try clear hk); (try clear hi)))
                                go_ret
                                exact ⟨by first | rfl | (simp [errW_none, errW_some] <;> rfl) | (simp [*, errW_none, errW_some] <;> rfl), by repeat (first | (with_reducible first | exact HB.out | apply below_alloc | apply pw_below_drewN | apply below_drew1 | refine below_set ?_ GE346.out | refine below_set ?_ GE353.out) | exact HB.out)⟩
                              · rw [if_neg c112] at H
                                have c112b0 : (t368 == false) = false := by simpa using c112
                                (try (have c112b1 : decide (t368 = false) = false := by simpa using c112))
                                (try (have c112b2 : (t368 == false) = false := by simpa using c112))
                                (try (have c112b3 : ¬ (t368 = false) := by simpa using c112))
                                clear c112
                                obtain rfl := Option.some.inj H
                                have hnb121 := NB346_353.out
                                have hnc121 := NB353_346.out
                                have hcz122_0 : wr.cell? ⟨gb346, 0, none⟩ = some (u347000) := (blk_cell BK346.out 0).trans rfl
                                have hcz122_1 : wr.cell? ⟨gb346, 1, none⟩ = some (u347001) := (blk_cell BK346.out 1).trans rfl
                                have hcz122_2 : wr.cell? ⟨gb346, 2, none⟩ = some (u347002) := (blk_cell BK346.out 2).trans rfl
                                have hcz122_3 : wr.cell? ⟨gb346, 3, none⟩ = some (.int .i64 0) := (blk_cell BK346.out 3).trans rfl
                                have hfz122_0 := blk_frozen BK346.out 0
                                have hfz122_1 := blk_frozen BK346.out 1
                                have hfz122_2 := blk_frozen BK346.out 2
                                have hfz122_3 := blk_frozen BK346.out 3
                                obtain ⟨Ao123, co123, eo123⟩ := Kd.N_slice HO_347000.out
                                subst eo123
                                obtain ⟨Ao124, co124, eo124⟩ := Kd.R_slice HO_347001.out
                                subst eo124
                                obtain ⟨Ao125, co125, eo125⟩ := Kd.R_slice HO_347002.out
                                subst eo125
                                go_wp2_with (first | ((with_reducible refine gate_callee (f := 13) rfl ?_); refine goesL_ (some 96) rfl rfl Try.func13 (by kernel_rfl) rfl #[.agg #[.slice Ao123 x347000_4.length co123, .slice Ao124 x347001_1.length co124, .slice Ao125 x347002_2.length co125, .int .i64 0]] rfl (by (try simp only [List.map_toArray, List.map_cons, List.map_nil]); first | done | rfl | (simp only [List.length_drop, List.length_take]; rfl)) ?_; (with_reducible refine (code_May.calls k4 _ _ x347000_4 _ _ x347001_1 _ _ x347002_2 0 t368 _ ?side1 ?side2 ?side3 ?side4 ?side5 ?side6 A111.out).mono ?_); (case side1 => repeat (first | exact (Kd.N_reads' HO_347000.out).2.2 | (with_reducible refine Kd.C_alloc ?_ _) | (with_reducible refine Kd.C_drewN ?_ _) | (with_reducible refine Kd.C_drew ?_))); (case side2 => exact (Kd.N_reads' HO_347000.out).2.1); (case side3 => repeat (first | exact (Kd.R_reads' HO_347001.out).2.2 | (with_reducible refine Kd.C_alloc ?_ _) | (with_reducible refine Kd.C_drewN ?_ _) | (with_reducible refine Kd.C_drew ?_))); (case side4 => exact (Kd.R_reads' HO_347001.out).2.1); (case side5 => repeat (first | exact (Kd.R_reads' HO_347002.out).2.2 | (with_reducible refine Kd.C_alloc ?_ _) | (with_reducible refine Kd.C_drewN ?_ _) | (with_reducible refine Kd.C_drew ?_))); (case side6 => exact (Kd.R_reads' HO_347002.out).2.1); rintro e w126 ⟨rfl, hb⟩; refine ⟨_, rfl, ?_⟩; have n0_ := Aside0.mk (Kd.N_below (by (with_reducible repeat (first | apply Kd.N_alloc | apply Kd.N_drewN | apply Kd.N_drew)); exact HO_347000.out) hb); have n1_ := Aside0.mk (Kd.R_below (by (with_reducible repeat (first | apply Kd.R_alloc | apply Kd.R_drewN | apply Kd.R_drew)); exact HO_347001.out) hb); have n2_ := Aside0.mk (Kd.R_below (by (with_reducible repeat (first | apply Kd.R_alloc | apply Kd.R_drewN | apply Kd.R_drew)); exact HO_347002.out) hb); have n3_ := Aside0.mk (Kd.R_below (by (with_reducible repeat (first | apply Kd.R_alloc | apply Kd.R_drewN | apply Kd.R_drew)); exact HO_354003.out) hb); have n4_ := Aside0.mk (blk_below (g := gb346) (o := .cells #[.slice Ao123 x347000_4.length co123, .slice Ao124 x347001_1.length co124, .slice Ao125 x347002_2.length co125, .int .i64 0] 26 (0, 0)) (by (with_reducible repeat (first | refine blk_drewN ?_ _ | refine blk_drew ?_ | refine blk_alloc ?_ _)); exact BK346.out) hb); have n5_ := Aside0.mk (blk_below (g := gb353) (o := .cells #[.int .i64 0, .int .i64 0, .int .i64 1, u354003] 40 (0, 0)) (by (with_reducible repeat (first | refine blk_drewN ?_ _ | refine blk_drew ?_ | refine blk_alloc ?_ _)); exact BK353.out) hb); have n6_ := Aside0.mk (below_step (by repeat (first | (with_reducible first | exact HB.out | apply below_alloc | apply pw_below_drewN | apply below_drew1 | refine below_set ?_ GE346.out | refine below_set ?_ GE353.out) | exact HB.out)) hb); clear HO_347000; clear HO_347001; clear HO_347002; clear HO_354003; clear BK346; clear BK353; clear HB; have HO_347000 := n0_; have HO_347001 := n1_; have HO_347002 := n2_; have HO_354003 := n3_; have BK346 := n4_; have BK353 := n5_; have HB := n6_; clear n0_ n1_ n2_ n3_ n4_ n5_ n6_; (try clear hb); (try clear hb2); (try clear hk); (try clear hi)))
                                go_ret
                                exact ⟨by first | rfl | (simp [errW_none, errW_some] <;> rfl) | (simp [*, errW_none, errW_some] <;> rfl), by repeat (first | (with_reducible first | exact HB.out | apply below_alloc | apply pw_below_drewN | apply below_drew1 | refine below_set ?_ GE346.out | refine below_set ?_ GE353.out) | exact HB.out)⟩
                          · rw [if_neg c42] at H
                            have c42b0 : decide (1 ≤ t342) = false := decide_eq_false c42
                            clear c42
                            replace H := Option.bind_eq_some_iff.mp H
                            obtain ⟨t370, A1270, H⟩ := H
                            replace H : (if (t370 == false) = true then ((selvagelaw13_lives.f k4).bind fun t371 => (some t371)) else (some false)) = some r := H
                            have A127 := Aside0.mk A1270
                            clear A1270
                            by_cases c128 : (t370 == false) = true
                            · rw [if_pos c128] at H
                              have c128b0 : (t370 == false) = true := c128
                              (try (have c128b1 : decide (t370 = false) = true := by simpa using c128))
                              (try (have c128b2 : (t370 == false) = true := by simpa using c128))
                              clear c128
                              replace H := Option.bind_eq_some_iff.mp H
                              obtain ⟨t371, A1290, H⟩ := H
                              replace H : (some t371) = some r := H
                              have A129 := Aside0.mk A1290
                              clear A1290
                              obtain rfl := Option.some.inj H
                              have hnb130 := NB346_353.out
                              have hnc130 := NB353_346.out
                              have hcz131_0 : wr.cell? ⟨gb346, 0, none⟩ = some (u347000) := (blk_cell BK346.out 0).trans rfl
                              have hcz131_1 : wr.cell? ⟨gb346, 1, none⟩ = some (u347001) := (blk_cell BK346.out 1).trans rfl
                              have hcz131_2 : wr.cell? ⟨gb346, 2, none⟩ = some (u347002) := (blk_cell BK346.out 2).trans rfl
                              have hcz131_3 : wr.cell? ⟨gb346, 3, none⟩ = some (.int .i64 0) := (blk_cell BK346.out 3).trans rfl
                              have hfz131_0 := blk_frozen BK346.out 0
                              have hfz131_1 := blk_frozen BK346.out 1
                              have hfz131_2 := blk_frozen BK346.out 2
                              have hfz131_3 := blk_frozen BK346.out 3
                              obtain ⟨Ao132, co132, eo132⟩ := Kd.N_slice HO_347000.out
                              subst eo132
                              obtain ⟨Ao133, co133, eo133⟩ := Kd.R_slice HO_347001.out
                              subst eo133
                              obtain ⟨Ao134, co134, eo134⟩ := Kd.R_slice HO_347002.out
                              subst eo134
                              go_wp2_with (first | ((with_reducible refine gate_callee (f := 13) rfl ?_); refine goesL_ (some 96) rfl rfl Try.func13 (by kernel_rfl) rfl #[.agg #[.slice Ao132 x347000_4.length co132, .slice Ao133 x347001_1.length co133, .slice Ao134 x347002_2.length co134, .int .i64 0]] rfl (by (try simp only [List.map_toArray, List.map_cons, List.map_nil]); first | done | rfl | (simp only [List.length_drop, List.length_take]; rfl)) ?_; (with_reducible refine (code_May.calls k4 _ _ x347000_4 _ _ x347001_1 _ _ x347002_2 0 t370 _ ?side1 ?side2 ?side3 ?side4 ?side5 ?side6 A127.out).mono ?_); (case side1 => repeat (first | exact (Kd.N_reads' HO_347000.out).2.2 | (with_reducible refine Kd.C_alloc ?_ _) | (with_reducible refine Kd.C_drewN ?_ _) | (with_reducible refine Kd.C_drew ?_))); (case side2 => exact (Kd.N_reads' HO_347000.out).2.1); (case side3 => repeat (first | exact (Kd.R_reads' HO_347001.out).2.2 | (with_reducible refine Kd.C_alloc ?_ _) | (with_reducible refine Kd.C_drewN ?_ _) | (with_reducible refine Kd.C_drew ?_))); (case side4 => exact (Kd.R_reads' HO_347001.out).2.1); (case side5 => repeat (first | exact (Kd.R_reads' HO_347002.out).2.2 | (with_reducible refine Kd.C_alloc ?_ _) | (with_reducible refine Kd.C_drewN ?_ _) | (with_reducible refine Kd.C_drew ?_))); (case side6 => exact (Kd.R_reads' HO_347002.out).2.1); rintro e w135 ⟨rfl, hb⟩; refine ⟨_, rfl, ?_⟩; have n0_ := Aside0.mk (Kd.N_below (by (with_reducible repeat (first | apply Kd.N_alloc | apply Kd.N_drewN | apply Kd.N_drew)); exact HO_347000.out) hb); have n1_ := Aside0.mk (Kd.R_below (by (with_reducible repeat (first | apply Kd.R_alloc | apply Kd.R_drewN | apply Kd.R_drew)); exact HO_347001.out) hb); have n2_ := Aside0.mk (Kd.R_below (by (with_reducible repeat (first | apply Kd.R_alloc | apply Kd.R_drewN | apply Kd.R_drew)); exact HO_347002.out) hb); have n3_ := Aside0.mk (Kd.R_below (by (with_reducible repeat (first | apply Kd.R_alloc | apply Kd.R_drewN | apply Kd.R_drew)); exact HO_354003.out) hb); have n4_ := Aside0.mk (blk_below (g := gb346) (o := .cells #[.slice Ao132 x347000_4.length co132, .slice Ao133 x347001_1.length co133, .slice Ao134 x347002_2.length co134, .int .i64 0] 26 (0, 0)) (by (with_reducible repeat (first | refine blk_drewN ?_ _ | refine blk_drew ?_ | refine blk_alloc ?_ _)); exact BK346.out) hb); have n5_ := Aside0.mk (blk_below (g := gb353) (o := .cells #[.int .i64 0, .int .i64 0, .int .i64 1, u354003] 40 (0, 0)) (by (with_reducible repeat (first | refine blk_drewN ?_ _ | refine blk_drew ?_ | refine blk_alloc ?_ _)); exact BK353.out) hb); have n6_ := Aside0.mk (below_step (by repeat (first | (with_reducible first | exact HB.out | apply below_alloc | apply pw_below_drewN | apply below_drew1 | refine below_set ?_ GE346.out | refine below_set ?_ GE353.out) | exact HB.out)) hb); clear HO_347000; clear HO_347001; clear HO_347002; clear HO_354003; clear BK346; clear BK353; clear HB; have HO_347000 := n0_; have HO_347001 := n1_; have HO_347002 := n2_; have HO_354003 := n3_; have BK346 := n4_; have BK353 := n5_; have HB := n6_; clear n0_ n1_ n2_ n3_ n4_ n5_ n6_; (try clear hb); (try clear hb2); (try clear hk); (try clear hi)) | (go_at_call 15; (with_reducible refine (selvagelaw13_lives.calls k4  t371 _ A129.out).mono ?_); rintro e w136 ⟨rfl, hb⟩; have n0_ := Aside0.mk (Kd.N_below (by (with_reducible repeat (first | apply Kd.N_alloc | apply Kd.N_drewN | apply Kd.N_drew)); exact HO_347000.out) hb); have n1_ := Aside0.mk (Kd.R_below (by (with_reducible repeat (first | apply Kd.R_alloc | apply Kd.R_drewN | apply Kd.R_drew)); exact HO_347001.out) hb); have n2_ := Aside0.mk (Kd.R_below (by (with_reducible repeat (first | apply Kd.R_alloc | apply Kd.R_drewN | apply Kd.R_drew)); exact HO_347002.out) hb); have n3_ := Aside0.mk (Kd.R_below (by (with_reducible repeat (first | apply Kd.R_alloc | apply Kd.R_drewN | apply Kd.R_drew)); exact HO_354003.out) hb); have n4_ := Aside0.mk (blk_below (g := gb346) (o := .cells #[.slice Ao132 x347000_4.length co132, .slice Ao133 x347001_1.length co133, .slice Ao134 x347002_2.length co134, .int .i64 0] 26 (0, 0)) (by (with_reducible repeat (first | refine blk_drewN ?_ _ | refine blk_drew ?_ | refine blk_alloc ?_ _)); exact BK346.out) hb); have n5_ := Aside0.mk (blk_below (g := gb353) (o := .cells #[.int .i64 0, .int .i64 0, .int .i64 1, u354003] 40 (0, 0)) (by (with_reducible repeat (first | refine blk_drewN ?_ _ | refine blk_drew ?_ | refine blk_alloc ?_ _)); exact BK353.out) hb); have n6_ := Aside0.mk (below_step (by repeat (first | (with_reducible first | exact HB.out | apply below_alloc | apply pw_below_drewN | apply below_drew1 | refine below_set ?_ GE346.out | refine below_set ?_ GE353.out) | exact HB.out)) hb); clear HO_347000; clear HO_347001; clear HO_347002; clear HO_354003; clear BK346; clear BK353; clear HB; have HO_347000 := n0_; have HO_347001 := n1_; have HO_347002 := n2_; have HO_354003 := n3_; have BK346 := n4_; have BK353 := n5_; have HB := n6_; clear n0_ n1_ n2_ n3_ n4_ n5_ n6_; (try clear hb); (try clear hb2); (try clear hk); (try clear hi)))
                              go_ret
                              exact ⟨by first | rfl | (simp [errW_none, errW_some] <;> rfl) | (simp [*, errW_none, errW_some] <;> rfl), by repeat (first | (with_reducible first | exact HB.out | apply below_alloc | apply pw_below_drewN | apply below_drew1 | refine below_set ?_ GE346.out | refine below_set ?_ GE353.out) | exact HB.out)⟩
                            · rw [if_neg c128] at H
                              have c128b0 : (t370 == false) = false := by simpa using c128
                              (try (have c128b1 : decide (t370 = false) = false := by simpa using c128))
                              (try (have c128b2 : (t370 == false) = false := by simpa using c128))
                              (try (have c128b3 : ¬ (t370 = false) := by simpa using c128))
                              clear c128
                              obtain rfl := Option.some.inj H
                              have hnb137 := NB346_353.out
                              have hnc137 := NB353_346.out
                              have hcz138_0 : wr.cell? ⟨gb346, 0, none⟩ = some (u347000) := (blk_cell BK346.out 0).trans rfl
                              have hcz138_1 : wr.cell? ⟨gb346, 1, none⟩ = some (u347001) := (blk_cell BK346.out 1).trans rfl
                              have hcz138_2 : wr.cell? ⟨gb346, 2, none⟩ = some (u347002) := (blk_cell BK346.out 2).trans rfl
                              have hcz138_3 : wr.cell? ⟨gb346, 3, none⟩ = some (.int .i64 0) := (blk_cell BK346.out 3).trans rfl
                              have hfz138_0 := blk_frozen BK346.out 0
                              have hfz138_1 := blk_frozen BK346.out 1
                              have hfz138_2 := blk_frozen BK346.out 2
                              have hfz138_3 := blk_frozen BK346.out 3
                              obtain ⟨Ao139, co139, eo139⟩ := Kd.N_slice HO_347000.out
                              subst eo139
                              obtain ⟨Ao140, co140, eo140⟩ := Kd.R_slice HO_347001.out
                              subst eo140
                              obtain ⟨Ao141, co141, eo141⟩ := Kd.R_slice HO_347002.out
                              subst eo141
                              go_wp2_with (first | ((with_reducible refine gate_callee (f := 13) rfl ?_); refine goesL_ (some 96) rfl rfl Try.func13 (by kernel_rfl) rfl #[.agg #[.slice Ao139 x347000_4.length co139, .slice Ao140 x347001_1.length co140, .slice Ao141 x347002_2.length co141, .int .i64 0]] rfl (by (try simp only [List.map_toArray, List.map_cons, List.map_nil]); first | done | rfl | (simp only [List.length_drop, List.length_take]; rfl)) ?_; (with_reducible refine (code_May.calls k4 _ _ x347000_4 _ _ x347001_1 _ _ x347002_2 0 t370 _ ?side1 ?side2 ?side3 ?side4 ?side5 ?side6 A127.out).mono ?_); (case side1 => repeat (first | exact (Kd.N_reads' HO_347000.out).2.2 | (with_reducible refine Kd.C_alloc ?_ _) | (with_reducible refine Kd.C_drewN ?_ _) | (with_reducible refine Kd.C_drew ?_))); (case side2 => exact (Kd.N_reads' HO_347000.out).2.1); (case side3 => repeat (first | exact (Kd.R_reads' HO_347001.out).2.2 | (with_reducible refine Kd.C_alloc ?_ _) | (with_reducible refine Kd.C_drewN ?_ _) | (with_reducible refine Kd.C_drew ?_))); (case side4 => exact (Kd.R_reads' HO_347001.out).2.1); (case side5 => repeat (first | exact (Kd.R_reads' HO_347002.out).2.2 | (with_reducible refine Kd.C_alloc ?_ _) | (with_reducible refine Kd.C_drewN ?_ _) | (with_reducible refine Kd.C_drew ?_))); (case side6 => exact (Kd.R_reads' HO_347002.out).2.1); rintro e w142 ⟨rfl, hb⟩; refine ⟨_, rfl, ?_⟩; have n0_ := Aside0.mk (Kd.N_below (by (with_reducible repeat (first | apply Kd.N_alloc | apply Kd.N_drewN | apply Kd.N_drew)); exact HO_347000.out) hb); have n1_ := Aside0.mk (Kd.R_below (by (with_reducible repeat (first | apply Kd.R_alloc | apply Kd.R_drewN | apply Kd.R_drew)); exact HO_347001.out) hb); have n2_ := Aside0.mk (Kd.R_below (by (with_reducible repeat (first | apply Kd.R_alloc | apply Kd.R_drewN | apply Kd.R_drew)); exact HO_347002.out) hb); have n3_ := Aside0.mk (Kd.R_below (by (with_reducible repeat (first | apply Kd.R_alloc | apply Kd.R_drewN | apply Kd.R_drew)); exact HO_354003.out) hb); have n4_ := Aside0.mk (blk_below (g := gb346) (o := .cells #[.slice Ao139 x347000_4.length co139, .slice Ao140 x347001_1.length co140, .slice Ao141 x347002_2.length co141, .int .i64 0] 26 (0, 0)) (by (with_reducible repeat (first | refine blk_drewN ?_ _ | refine blk_drew ?_ | refine blk_alloc ?_ _)); exact BK346.out) hb); have n5_ := Aside0.mk (blk_below (g := gb353) (o := .cells #[.int .i64 0, .int .i64 0, .int .i64 1, u354003] 40 (0, 0)) (by (with_reducible repeat (first | refine blk_drewN ?_ _ | refine blk_drew ?_ | refine blk_alloc ?_ _)); exact BK353.out) hb); have n6_ := Aside0.mk (below_step (by repeat (first | (with_reducible first | exact HB.out | apply below_alloc | apply pw_below_drewN | apply below_drew1 | refine below_set ?_ GE346.out | refine below_set ?_ GE353.out) | exact HB.out)) hb); clear HO_347000; clear HO_347001; clear HO_347002; clear HO_354003; clear BK346; clear BK353; clear HB; have HO_347000 := n0_; have HO_347001 := n1_; have HO_347002 := n2_; have HO_354003 := n3_; have BK346 := n4_; have BK353 := n5_; have HB := n6_; clear n0_ n1_ n2_ n3_ n4_ n5_ n6_; (try clear hb); (try clear hb2); (try clear hk); (try clear hi)))
                              go_ret
                              exact ⟨by first | rfl | (simp [errW_none, errW_some] <;> rfl) | (simp [*, errW_none, errW_some] <;> rfl), by repeat (first | (with_reducible first | exact HB.out | apply below_alloc | apply pw_below_drewN | apply below_drew1 | refine below_set ?_ GE346.out | refine below_set ?_ GE353.out) | exact HB.out)⟩

/-- THE ONE PURE STATEMENT of selvagelaw13_CodeSizes: yours. -/
def selvagelaw13_CodeSizes.Pure : Prop := ∀ (a0 : Int) (a1 : Int) (a2 : Int) (a3 : Int), (Lit.int .i64 a0).wf = true → (Lit.int .i64 a1).wf = true → (Lit.int .i64 a2).wf = true → (Lit.int .i64 a3).wf = true → ∃ k, selvagelaw13_CodeSizes.f k a0 a1 a2 a3 = some true
theorem selvagelaw13_CodeSizes.walk (P : selvagelaw13_CodeSizes.Pure) (a0 : Int) (a1 : Int) (a2 : Int) (a3 : Int) (w : World) (w0 : (Lit.int .i64 a0).wf = true) (w1 : (Lit.int .i64 a1).wf = true) (w2 : (Lit.int .i64 a2).wf = true) (w3 : (Lit.int .i64 a3).wf = true) :
    Calls Try.prog 5 #[.int .i64 a0, .int .i64 a1, .int .i64 a2, .int .i64 a3] w fun e w' => e = .returned (.bool true) ∧ Below w.heap.size w w' := by
  obtain ⟨k, h⟩ := P a0 a1 a2 a3 w0 w1 w2 w3
  refine (selvagelaw13_CodeSizes.calls k a0 a1 a2 a3 true w h).mono ?_
  rintro e w' ⟨rfl, hd⟩
  exact ⟨rfl, hd⟩

end Go.Proofs.Ytadbiogchgglpaa.Q
