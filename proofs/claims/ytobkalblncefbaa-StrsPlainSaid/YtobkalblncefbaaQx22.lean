-- PRINTED by print.py (a twelfth state) out of the translation. Not trusted: Lean checks it.
import Derived.Test.YtobkalblncefbaaQx0
import Derived.Test.YtobkalblncefbaaQx1
import Derived.Test.YtobkalblncefbaaQx13
import Derived.Test.YtobkalblncefbaaHc
namespace Go.Proofs.Ytobkalblncefbaa.Q
open Go.RowKit Go.Proofs.YtobkalblncefbaaW.PrintWords Go.Proofs.YtobkalblncefbaaW.PrintLast Go.Proofs.YtobkalblncefbaaW.PrintMore
attribute [local go_sem] max2_int min2_int max_two min_two max_three min_three max_four min_four   -- for this text's walks alone
set_option linter.unusedVariables false
set_option linter.unusedSimpArgs false

/-! ### selvagelaw03_StrsPlain: function 8 -/
mutual
def selvagelaw03_StrsPlain.j0 : Nat → ByteArray → Bool → Option (Bool)
  | 0, _, _ => none
  | k + 1, x3, x42 => if x42 = true then (some false) else (selvagelaw03_StrsPlain.l0 k x3 false 1)
def selvagelaw03_StrsPlain.l0 : Nat → ByteArray → Bool → Int → Option (Bool)
  | 0, _, _, _ => none
  | k + 1, x3, x4, x5 => if x5 < (wrap64 ((x3.size : Int) - 1)) then (if 0 ≤ x5 then (if x5 < (x3.size : Int) then (if (bt x3 x5) < 32 then (some false) else (if (bt x3 x5) > 126 then (some false) else (if (bt x3 x5) = 34 then (if x4 = true then (if (bt x3 x5) = 92 then (selvagelaw03_StrsPlain.l0 k x3 (!x4) (wrap64 (x5 + 1))) else (selvagelaw03_StrsPlain.l0 k x3 false (wrap64 (x5 + 1)))) else (some false)) else (if (bt x3 x5) = 92 then (selvagelaw03_StrsPlain.l0 k x3 (!x4) (wrap64 (x5 + 1))) else (selvagelaw03_StrsPlain.l0 k x3 false (wrap64 (x5 + 1))))))) else (none)) else (none)) else (if x4 = true then (some false) else ((selvagelaw03_lives.f k).bind fun t196 => (some t196)))
end
def selvagelaw03_StrsPlain.f (k : Nat) (a0 : ByteArray) : Option (Bool) := (selvagelaw03_few.f a0).bind fun t194 => ((strs_Quote.f t194).bind fun t195 => (if (t195.size : Int) < 2 then (selvagelaw03_StrsPlain.j0 k t195 true) else (if 0 < (t195.size : Int) then (if (bt t195 0) = 34 then (if 0 ≤ (wrap64 ((t195.size : Int) - 1)) then (if (wrap64 ((t195.size : Int) - 1)) < (t195.size : Int) then (if (bt t195 (wrap64 ((t195.size : Int) - 1))) = 34 then (if (t195.size : Int) < (wrap64 ((t194.size : Int) + 2)) then (selvagelaw03_StrsPlain.j0 k t195 true) else (selvagelaw03_StrsPlain.j0 k t195 (decide ((t195.size : Int) > (wrap64 ((wrap64 (4 * (t194.size : Int))) + 2)))))) else (selvagelaw03_StrsPlain.j0 k t195 true)) else (none)) else (none)) else (selvagelaw03_StrsPlain.j0 k t195 true)) else (none))))
theorem selvagelaw03_StrsPlain.mono_l : ∀ k, (∀ y0 y1, LeO (selvagelaw03_StrsPlain.j0 k y0 y1) (selvagelaw03_StrsPlain.j0 (k + 1) y0 y1)) ∧ (∀ y0 y1 y2, LeO (selvagelaw03_StrsPlain.l0 k y0 y1 y2) (selvagelaw03_StrsPlain.l0 (k + 1) y0 y1 y2))
  | 0 => ⟨fun _ _ r h => by simp [selvagelaw03_StrsPlain.j0] at h, fun _ _ _ r h => by simp [selvagelaw03_StrsPlain.l0] at h⟩
  | k + 1 => by
    obtain ⟨ih0, ih1⟩ := selvagelaw03_StrsPlain.mono_l k
    refine ⟨?_, ?_⟩
    · intro y0 y1
      unfold selvagelaw03_StrsPlain.j0
      repeat' first
      | (with_reducible exact ih0 _ _)
      | (with_reducible exact ih1 _ _ _)
      | (with_reducible exact selvagelaw03_lives.mono _)
      | (with_reducible exact LeO.refl _)
      | (with_reducible exact LeO.none _)
      | (with_reducible refine LeO.ite ?_ ?_)
      | (with_reducible refine LeO.bind ?_ (fun _ => ?_))
      | exact ih0 _ _
      | exact ih1 _ _ _
      | exact selvagelaw03_lives.mono _
      | exact LeO.none _
      | refine LeO.ite ?_ ?_
      | refine LeO.bind ?_ (fun _ => ?_)
    · intro y0 y1 y2
      unfold selvagelaw03_StrsPlain.l0
      repeat' first
      | (with_reducible exact ih0 _ _)
      | (with_reducible exact ih1 _ _ _)
      | (with_reducible exact selvagelaw03_lives.mono _)
      | (with_reducible exact LeO.refl _)
      | (with_reducible exact LeO.none _)
      | (with_reducible refine LeO.ite ?_ ?_)
      | (with_reducible refine LeO.bind ?_ (fun _ => ?_))
      | exact ih0 _ _
      | exact ih1 _ _ _
      | exact selvagelaw03_lives.mono _
      | exact LeO.none _
      | refine LeO.ite ?_ ?_
      | refine LeO.bind ?_ (fun _ => ?_)
theorem selvagelaw03_StrsPlain.mono : ∀ a0 k, LeO (selvagelaw03_StrsPlain.f k a0) (selvagelaw03_StrsPlain.f (k + 1) a0) := by
  intro a0 k
  obtain ⟨ih0, ih1⟩ := selvagelaw03_StrsPlain.mono_l k
  unfold selvagelaw03_StrsPlain.f
  repeat' first
      | (with_reducible exact ih0 _ _)
      | (with_reducible exact ih1 _ _ _)
      | (with_reducible exact selvagelaw03_lives.mono _)
      | (with_reducible exact LeO.refl _)
      | (with_reducible exact LeO.none _)
      | (with_reducible refine LeO.ite ?_ ?_)
      | (with_reducible refine LeO.bind ?_ (fun _ => ?_))
      | exact ih0 _ _
      | exact ih1 _ _ _
      | exact selvagelaw03_lives.mono _
      | exact LeO.none _
      | refine LeO.ite ?_ ?_
      | refine LeO.bind ?_ (fun _ => ?_)
set_option maxHeartbeats 8000000 in
set_option maxRecDepth 100000 in
theorem selvagelaw03_StrsPlain.calls (k : Nat) (a0 : ByteArray) (r : Bool) (w : World) (h : selvagelaw03_StrsPlain.f k a0 = some r) :
    Calls Try.prog 8 #[.string a0] w fun e w' => e = .returned (.bool r) ∧ Below w.heap.size w w' := by
  have HB := Aside0.mk (Below.refl w.heap.size w)
  have H : ((selvagelaw03_few.f a0).bind fun t194 => ((strs_Quote.f t194).bind fun t195 => (if (t195.size : Int) < 2 then (selvagelaw03_StrsPlain.j0 k t195 true) else (if 0 < (t195.size : Int) then (if (bt t195 0) = 34 then (if 0 ≤ (wrap64 ((t195.size : Int) - 1)) then (if (wrap64 ((t195.size : Int) - 1)) < (t195.size : Int) then (if (bt t195 (wrap64 ((t195.size : Int) - 1))) = 34 then (if (t195.size : Int) < (wrap64 ((t194.size : Int) + 2)) then (selvagelaw03_StrsPlain.j0 k t195 true) else (selvagelaw03_StrsPlain.j0 k t195 (decide ((t195.size : Int) > (wrap64 ((wrap64 (4 * (t194.size : Int))) + 2)))))) else (selvagelaw03_StrsPlain.j0 k t195 true)) else (none)) else (none)) else (selvagelaw03_StrsPlain.j0 k t195 true)) else (none))))) = some r := h
  clear h
  replace H := Option.bind_eq_some_iff.mp H
  obtain ⟨t194, A20, H⟩ := H
  replace H : ((strs_Quote.f t194).bind fun t195 => (if (t195.size : Int) < 2 then (selvagelaw03_StrsPlain.j0 k t195 true) else (if 0 < (t195.size : Int) then (if (bt t195 0) = 34 then (if 0 ≤ (wrap64 ((t195.size : Int) - 1)) then (if (wrap64 ((t195.size : Int) - 1)) < (t195.size : Int) then (if (bt t195 (wrap64 ((t195.size : Int) - 1))) = 34 then (if (t195.size : Int) < (wrap64 ((t194.size : Int) + 2)) then (selvagelaw03_StrsPlain.j0 k t195 true) else (selvagelaw03_StrsPlain.j0 k t195 (decide ((t195.size : Int) > (wrap64 ((wrap64 (4 * (t194.size : Int))) + 2)))))) else (selvagelaw03_StrsPlain.j0 k t195 true)) else (none)) else (none)) else (selvagelaw03_StrsPlain.j0 k t195 true)) else (none)))) = some r := H
  have A2 := Aside0.mk A20
  clear A20
  replace H := Option.bind_eq_some_iff.mp H
  obtain ⟨t195, A30, H⟩ := H
  replace H : (if (t195.size : Int) < 2 then (selvagelaw03_StrsPlain.j0 k t195 true) else (if 0 < (t195.size : Int) then (if (bt t195 0) = 34 then (if 0 ≤ (wrap64 ((t195.size : Int) - 1)) then (if (wrap64 ((t195.size : Int) - 1)) < (t195.size : Int) then (if (bt t195 (wrap64 ((t195.size : Int) - 1))) = 34 then (if (t195.size : Int) < (wrap64 ((t194.size : Int) + 2)) then (selvagelaw03_StrsPlain.j0 k t195 true) else (selvagelaw03_StrsPlain.j0 k t195 (decide ((t195.size : Int) > (wrap64 ((wrap64 (4 * (t194.size : Int))) + 2)))))) else (selvagelaw03_StrsPlain.j0 k t195 true)) else (none)) else (none)) else (selvagelaw03_StrsPlain.j0 k t195 true)) else (none))) = some r := H
  have A3 := Aside0.mk A30
  clear A30
  have HC4 := Aside0.mk H
  clear H
  go_enter Try.func8, Try.ntmps8
  go_upto_region 3 with (first | ((with_reducible refine gate_callee (f := 12) rfl ?_); refine goesL_ (some 7) rfl rfl Try.func12 (by kernel_rfl) rfl #[.string a0] rfl (by (try simp only [List.map_toArray, List.map_cons, List.map_nil]); first | done | rfl | (simp only [List.length_drop, List.length_take]; rfl)) ?_; (with_reducible refine (selvagelaw03_few.calls a0 t194 _ A2.out).mono ?_); rintro e w' ⟨rfl, ⟨nd, rfl⟩⟩; refine ⟨_, rfl, ?_⟩) | ((with_reducible refine gate_callee (f := 17) rfl ?_); refine goesL_ (some 9) rfl rfl Try.func17 (by kernel_rfl) rfl #[.string t194] rfl (by (try simp only [List.map_toArray, List.map_cons, List.map_nil]); first | done | rfl | (simp only [List.length_drop, List.length_take]; rfl)) ?_; (with_reducible refine (strs_Quote.calls t194 t195 _ A3.out).mono ?_); rintro e w5 ⟨rfl, hb⟩; refine ⟨_, rfl, ?_⟩; have n0_ := Aside0.mk (below_step (by repeat (first | (with_reducible first | exact HB.out | apply below_alloc | apply pw_below_drewN | apply below_drew1) | exact HB.out)) hb); clear HB; have HB := n0_; clear n0_; (try clear hb); (try clear hb2); (try clear hk); (try clear hi)))
  (try simp only [Act.put, List.setIfInBounds_toArray, List.set_cons_zero, List.set_cons_succ])
  go_cut [42] (fun v42 wc => ∃ (kq : Nat) (x42_3 : Bool), v42 = .bool x42_3 ∧ Aside0 (selvagelaw03_StrsPlain.j0 kq t195 x42_3 = some r) ∧ Aside0 (kq ≤ k) ∧ Aside0 (Below w.heap.size w wc))
  case first =>
    have H := HC4.out
    clear HC4
    by_cases c6 : (t195.size : Int) < 2
    · rw [if_pos c6] at H
      have c6b0 : decide ((t195.size : Int) < 2) = true := decide_eq_true c6
      have c6b1 : decide (t195.size < 2) = true := decide_eq_true (by omega)
      clear c6
      (first | rw [c6b0] | (simp only [i64_w, i32_w]; rw [c6b0]) | skip)
      have H' := Aside0.mk H
      clear H
      go_wp2
      go_meet
      case rel => exact ⟨_, (true), (by first | rfl | (simp; done) | (simp [*]; done)), H', ⟨by first | omega | exact Nat.le_refl _⟩, ⟨by repeat (first | (with_reducible first | exact HB.out | apply below_alloc | apply pw_below_drewN | apply below_drew1) | exact HB.out)⟩⟩
    · rw [if_neg c6] at H
      have c6b0 : decide ((t195.size : Int) < 2) = false := decide_eq_false c6
      have c6b1 : decide (t195.size < 2) = false := decide_eq_false (by omega)
      clear c6
      (first | rw [c6b0] | (simp only [i64_w, i32_w]; rw [c6b0]) | skip)
      by_cases c7 : 0 < (t195.size : Int)
      · rw [if_pos c7] at H
        have c7b0 : decide (0 < (t195.size : Int)) = true := decide_eq_true c7
        have c7b1 : decide (0 < t195.size) = true := decide_eq_true (by omega)
        clear c7
        by_cases c9 : (bt t195 0) = 34
        · rw [if_pos c9] at H
          have c9b0 : ((bt t195 0) == 34) = true := beq_iff_eq.mpr c9
          have c9b1 : ((bt t195 0) != 34) = false := bne_eq_false_iff_eq.mpr c9
          clear c9
          obtain ⟨ji10, hji10⟩ : ∃ j_ : Int, (wrap64 ((t195.size : Int) - 1)) = j_ := ⟨_, rfl⟩
          replace H : (if 0 ≤ (ji10) then (if (ji10) < (t195.size : Int) then (if (bt t195 (ji10)) = 34 then (if (t195.size : Int) < (wrap64 ((t194.size : Int) + 2)) then (selvagelaw03_StrsPlain.j0 k t195 true) else (selvagelaw03_StrsPlain.j0 k t195 (decide ((t195.size : Int) > (wrap64 ((wrap64 (4 * (t194.size : Int))) + 2)))))) else (selvagelaw03_StrsPlain.j0 k t195 true)) else (none)) else (none)) = some r := by first | (rw [hji10] at H; exact H) | (simp only [hji10] at H ⊢; exact H)
          have hji10w : (IntKind.i64.wrap ((t195.size : Int) - 1)) = ji10 := (i64_w _).trans hji10
          by_cases c11 : 0 ≤ (ji10)
          · rw [if_pos c11] at H
            have c11b0 : decide (0 ≤ (ji10)) = true := decide_eq_true c11
            clear c11
            by_cases c12 : (ji10) < (t195.size : Int)
            · rw [if_pos c12] at H
              have c12b0 : decide ((ji10) < (t195.size : Int)) = true := decide_eq_true c12
              clear c12
              by_cases c14 : (bt t195 (ji10)) = 34
              · rw [if_pos c14] at H
                have c14b0 : ((bt t195 (ji10)) == 34) = true := beq_iff_eq.mpr c14
                have c14b1 : ((bt t195 (ji10)) != 34) = false := bne_eq_false_iff_eq.mpr c14
                clear c14
                by_cases c15 : (t195.size : Int) < (wrap64 ((t194.size : Int) + 2))
                · rw [if_pos c15] at H
                  have c15b0 : decide ((t195.size : Int) < (wrap64 ((t194.size : Int) + 2))) = true := decide_eq_true c15
                  clear c15
                  have H' := Aside0.mk H
                  clear H
                  have p8 : 0 ≤ (0 : Int) := (by omega)
                  have q8 : 0 < t195.size := (by have : (0 : Int) < (t195.size : Int) := of_decide_eq_true (by first | (with_reducible assumption) | assumption); omega)
                  have hx8 : ∀ h : 0 < t195.size, ((t195[0]'h).toNat : Int) = bt t195 0 := bt_at t195 0
                  clear p8
                  have qi8 : (0 < (t195.size : Int)) = True := eq_true (of_decide_eq_true (by first | (with_reducible assumption) | assumption))
                  replace q8 := eq_true q8
                  have p13 : 0 ≤ ((ji10) : Int) := of_decide_eq_true (by first | (with_reducible assumption) | assumption)
                  have q13 : (ji10) < (t195.size : Int) := of_decide_eq_true (by first | (with_reducible assumption) | assumption)
                  have hx13 := bt_at t195 (ji10)
                  replace p13 := eq_true p13
                  replace q13 := eq_true q13
                  go_wp2
                  go_meet
                  case rel => exact ⟨_, (true), (by first | rfl | (simp; done) | (simp [*]; done)), H', ⟨by first | omega | exact Nat.le_refl _⟩, ⟨by repeat (first | (with_reducible first | exact HB.out | apply below_alloc | apply pw_below_drewN | apply below_drew1) | exact HB.out)⟩⟩
                · rw [if_neg c15] at H
                  have c15b0 : decide ((t195.size : Int) < (wrap64 ((t194.size : Int) + 2))) = false := decide_eq_false c15
                  clear c15
                  have H' := Aside0.mk H
                  clear H
                  have p8 : 0 ≤ (0 : Int) := (by omega)
                  have q8 : 0 < t195.size := (by have : (0 : Int) < (t195.size : Int) := of_decide_eq_true (by first | (with_reducible assumption) | assumption); omega)
                  have hx8 : ∀ h : 0 < t195.size, ((t195[0]'h).toNat : Int) = bt t195 0 := bt_at t195 0
                  clear p8
                  have qi8 : (0 < (t195.size : Int)) = True := eq_true (of_decide_eq_true (by first | (with_reducible assumption) | assumption))
                  replace q8 := eq_true q8
                  have p13 : 0 ≤ ((ji10) : Int) := of_decide_eq_true (by first | (with_reducible assumption) | assumption)
                  have q13 : (ji10) < (t195.size : Int) := of_decide_eq_true (by first | (with_reducible assumption) | assumption)
                  have hx13 := bt_at t195 (ji10)
                  replace p13 := eq_true p13
                  replace q13 := eq_true q13
                  go_wp2
                  go_meet
                  case rel => exact ⟨_, (decide ((t195.size : Int) > (wrap64 ((wrap64 (4 * (t194.size : Int))) + 2)))), (by first | rfl | (simp; done) | (simp [*]; done)), H', ⟨by first | omega | exact Nat.le_refl _⟩, ⟨by repeat (first | (with_reducible first | exact HB.out | apply below_alloc | apply pw_below_drewN | apply below_drew1) | exact HB.out)⟩⟩
              · rw [if_neg c14] at H
                have c14b0 : ((bt t195 (ji10)) == 34) = false := beq_eq_false_iff_ne.mpr c14
                have c14b1 : ((bt t195 (ji10)) != 34) = true := bne_iff_ne.mpr c14
                have H' := Aside0.mk H
                clear H
                have p8 : 0 ≤ (0 : Int) := (by omega)
                have q8 : 0 < t195.size := (by have : (0 : Int) < (t195.size : Int) := of_decide_eq_true (by first | (with_reducible assumption) | assumption); omega)
                have hx8 : ∀ h : 0 < t195.size, ((t195[0]'h).toNat : Int) = bt t195 0 := bt_at t195 0
                clear p8
                have qi8 : (0 < (t195.size : Int)) = True := eq_true (of_decide_eq_true (by first | (with_reducible assumption) | assumption))
                replace q8 := eq_true q8
                have p13 : 0 ≤ ((ji10) : Int) := of_decide_eq_true (by first | (with_reducible assumption) | assumption)
                have q13 : (ji10) < (t195.size : Int) := of_decide_eq_true (by first | (with_reducible assumption) | assumption)
                have hx13 := bt_at t195 (ji10)
                replace p13 := eq_true p13
                replace q13 := eq_true q13
                go_wp2
                go_meet
                case rel => exact ⟨_, (true), (by first | rfl | (simp; done) | (simp [*]; done)), H', ⟨by first | omega | exact Nat.le_refl _⟩, ⟨by repeat (first | (with_reducible first | exact HB.out | apply below_alloc | apply pw_below_drewN | apply below_drew1) | exact HB.out)⟩⟩
            · rw [if_neg c12] at H
              exact absurd H (by simp)
          · rw [if_neg c11] at H
            exact absurd H (by simp)
        · rw [if_neg c9] at H
          have c9b0 : ((bt t195 0) == 34) = false := beq_eq_false_iff_ne.mpr c9
          have c9b1 : ((bt t195 0) != 34) = true := bne_iff_ne.mpr c9
          have H' := Aside0.mk H
          clear H
          have p8 : 0 ≤ (0 : Int) := (by omega)
          have q8 : 0 < t195.size := (by have : (0 : Int) < (t195.size : Int) := of_decide_eq_true (by first | (with_reducible assumption) | assumption); omega)
          have hx8 : ∀ h : 0 < t195.size, ((t195[0]'h).toNat : Int) = bt t195 0 := bt_at t195 0
          clear p8
          have qi8 : (0 < (t195.size : Int)) = True := eq_true (of_decide_eq_true (by first | (with_reducible assumption) | assumption))
          replace q8 := eq_true q8
          go_wp2
          go_meet
          case rel => exact ⟨_, (true), (by first | rfl | (simp; done) | (simp [*]; done)), H', ⟨by first | omega | exact Nat.le_refl _⟩, ⟨by repeat (first | (with_reducible first | exact HB.out | apply below_alloc | apply pw_below_drewN | apply below_drew1) | exact HB.out)⟩⟩
      · rw [if_neg c7] at H
        exact absurd H (by simp)
  case rest =>
    clear HC4
    try clear c1
    try clear p1
    try clear q1
    try clear hx1
    try clear p2
    try clear c6
    try clear c6b0
    try clear c6b1
    try clear p6
    try clear c7
    try clear c7b0
    try clear c7b1
    try clear c8
    try clear p8
    try clear q8
    try clear hx8
    try clear qi8
    try clear c9
    try clear c9b0
    try clear c9b1
    try clear c11
    try clear c11b0
    try clear c12
    try clear c12b0
    try clear p13
    try clear q13
    try clear hx13
    try clear c14
    try clear c14b0
    try clear c14b1
    try clear c15
    try clear c15b0
    try clear p13
    try clear p8
    try clear q13
    try clear q8
    obtain ⟨kq, x42_3, rfl, HA, HJ3, HB⟩ := hcut
    cases kq with
    | zero => exact absurd HA.out (by simp [selvagelaw03_StrsPlain.j0])
    | succ kj3 =>
      have H := HA.out
      clear HA
      simp only [selvagelaw03_StrsPlain.j0] at H
      by_cases c16 : x42_3 = true
      · subst c16
        have H1 : (some false) = some r := by rw [if_pos rfl] at H; exact H
        clear H
        have H := H1
        clear H1
        obtain rfl := Option.some.inj H
        go_wp2
        go_ret
        exact ⟨by first | rfl | (simp [errW_none, errW_some] <;> rfl) | (simp [*, errW_none, errW_some] <;> rfl), by repeat (first | (with_reducible first | exact HB.out | apply below_alloc | apply pw_below_drewN | apply below_drew1) | exact HB.out)⟩
      · replace c16 := Bool.eq_false_iff.mpr c16
        subst c16
        have H1 : (selvagelaw03_StrsPlain.l0 kj3 t195 false 1) = some r := by rw [if_neg (show ¬ (false = true) by decide)] at H; exact H
        clear H
        have H := H1
        clear H1
        have H' := Aside0.mk H
        clear H
        go_wp2
        go_loopg [4, 5] kj3 (fun kq v4 v5 w' => ∃ (x4_2 : Bool) (x5_2 : Int), v4 = .bool x4_2 ∧ v5 = .int .i64 x5_2 ∧ Aside0 (selvagelaw03_StrsPlain.l0 kq t195 x4_2 x5_2 = some r) ∧ Aside0 (kq ≤ kj3) ∧ Aside0 (Below w.heap.size w w'))
        case atStart => exact ⟨(false), (1), (by first | rfl | (simp; done) | (simp [*]; done)), (by first | rfl | (simp; done) | (simp [*]; done)), H', ⟨Nat.le_refl _⟩, ⟨by repeat (first | (with_reducible first | exact HB.out | apply below_alloc | apply pw_below_drewN | apply below_drew1) | exact HB.out)⟩⟩
        case round =>
          clear H'
          try clear c1
          try clear p1
          try clear q1
          try clear hx1
          try clear p2
          try clear c6
          try clear c6b0
          try clear c6b1
          try clear p6
          try clear c7
          try clear c7b0
          try clear c7b1
          try clear c8
          try clear p8
          try clear q8
          try clear hx8
          try clear qi8
          try clear c9
          try clear c9b0
          try clear c9b1
          try clear c11
          try clear c11b0
          try clear c12
          try clear c12b0
          try clear p13
          try clear q13
          try clear hx13
          try clear c14
          try clear c14b0
          try clear c14b1
          try clear c15
          try clear c15b0
          try clear c16
          try clear p1
          try clear p13
          try clear p2
          try clear p6
          try clear p8
          try clear q1
          try clear q13
          try clear q8
          obtain ⟨x4_2, x5_2, rfl, rfl, HA, HK2, HB⟩ := hrel
          cases gk with
          | zero => exact absurd HA.out (by simp [selvagelaw03_StrsPlain.l0])
          | succ k2 =>
            have H := HA.out
            clear HA
            simp only [selvagelaw03_StrsPlain.l0] at H
            by_cases c17 : x5_2 < (wrap64 ((t195.size : Int) - 1))
            · rw [if_pos c17] at H
              have c17b0 : decide (x5_2 < (wrap64 ((t195.size : Int) - 1))) = true := decide_eq_true c17
              clear c17
              by_cases c18 : 0 ≤ x5_2
              · rw [if_pos c18] at H
                have c18b0 : decide (0 ≤ x5_2) = true := decide_eq_true c18
                clear c18
                by_cases c19 : x5_2 < (t195.size : Int)
                · rw [if_pos c19] at H
                  have c19b0 : decide (x5_2 < (t195.size : Int)) = true := decide_eq_true c19
                  clear c19
                  by_cases c21 : (bt t195 x5_2) < 32
                  · rw [if_pos c21] at H
                    have c21b0 : decide ((bt t195 x5_2) < 32) = true := decide_eq_true c21
                    clear c21
                    obtain rfl := Option.some.inj H
                    have p20 : 0 ≤ (x5_2 : Int) := of_decide_eq_true (by first | (with_reducible assumption) | assumption)
                    have q20 : x5_2 < (t195.size : Int) := of_decide_eq_true (by first | (with_reducible assumption) | assumption)
                    have hx20 := bt_at t195 x5_2
                    replace p20 := eq_true p20
                    replace q20 := eq_true q20
                    go_wp2
                    go_ret
                    exact ⟨by first | rfl | (simp [errW_none, errW_some] <;> rfl) | (simp [*, errW_none, errW_some] <;> rfl), by repeat (first | (with_reducible first | exact HB.out | apply below_alloc | apply pw_below_drewN | apply below_drew1) | exact HB.out)⟩
                  · rw [if_neg c21] at H
                    have c21b0 : decide ((bt t195 x5_2) < 32) = false := decide_eq_false c21
                    clear c21
                    by_cases c23 : (bt t195 x5_2) > 126
                    · rw [if_pos c23] at H
                      have c23b0 : decide (126 < (bt t195 x5_2)) = true := decide_eq_true c23
                      clear c23
                      obtain rfl := Option.some.inj H
                      have p20 : 0 ≤ (x5_2 : Int) := of_decide_eq_true (by first | (with_reducible assumption) | assumption)
                      have q20 : x5_2 < (t195.size : Int) := of_decide_eq_true (by first | (with_reducible assumption) | assumption)
                      have hx20 := bt_at t195 x5_2
                      replace p20 := eq_true p20
                      replace q20 := eq_true q20
                      have p22 : 0 ≤ (x5_2 : Int) := of_decide_eq_true (by first | (with_reducible assumption) | assumption)
                      have q22 : x5_2 < (t195.size : Int) := of_decide_eq_true (by first | (with_reducible assumption) | assumption)
                      have hx22 := bt_at t195 x5_2
                      replace p22 := eq_true p22
                      replace q22 := eq_true q22
                      go_wp2
                      go_ret
                      exact ⟨by first | rfl | (simp [errW_none, errW_some] <;> rfl) | (simp [*, errW_none, errW_some] <;> rfl), by repeat (first | (with_reducible first | exact HB.out | apply below_alloc | apply pw_below_drewN | apply below_drew1) | exact HB.out)⟩
                    · rw [if_neg c23] at H
                      have c23b0 : decide (126 < (bt t195 x5_2)) = false := decide_eq_false c23
                      clear c23
                      by_cases c25 : (bt t195 x5_2) = 34
                      · rw [if_pos c25] at H
                        have c25b0 : ((bt t195 x5_2) == 34) = true := beq_iff_eq.mpr c25
                        have c25b1 : ((bt t195 x5_2) != 34) = false := bne_eq_false_iff_eq.mpr c25
                        clear c25
                        by_cases c26 : x4_2 = true
                        · subst c26
                          have H1 : (if (bt t195 x5_2) = 92 then (selvagelaw03_StrsPlain.l0 k2 t195 (!true) (wrap64 (x5_2 + 1))) else (selvagelaw03_StrsPlain.l0 k2 t195 false (wrap64 (x5_2 + 1)))) = some r := by rw [if_pos rfl] at H; exact H
                          clear H
                          have H := H1
                          clear H1
                          by_cases c28 : (bt t195 x5_2) = 92
                          · rw [if_pos c28] at H
                            have c28b0 : ((bt t195 x5_2) == 92) = true := beq_iff_eq.mpr c28
                            have c28b1 : ((bt t195 x5_2) != 92) = false := bne_eq_false_iff_eq.mpr c28
                            clear c28
                            have H' := Aside0.mk H
                            clear H
                            have p20 : 0 ≤ (x5_2 : Int) := of_decide_eq_true (by first | (with_reducible assumption) | assumption)
                            have q20 : x5_2 < (t195.size : Int) := of_decide_eq_true (by first | (with_reducible assumption) | assumption)
                            have hx20 := bt_at t195 x5_2
                            replace p20 := eq_true p20
                            replace q20 := eq_true q20
                            have p22 : 0 ≤ (x5_2 : Int) := of_decide_eq_true (by first | (with_reducible assumption) | assumption)
                            have q22 : x5_2 < (t195.size : Int) := of_decide_eq_true (by first | (with_reducible assumption) | assumption)
                            have hx22 := bt_at t195 x5_2
                            replace p22 := eq_true p22
                            replace q22 := eq_true q22
                            have p24 : 0 ≤ (x5_2 : Int) := of_decide_eq_true (by first | (with_reducible assumption) | assumption)
                            have q24 : x5_2 < (t195.size : Int) := of_decide_eq_true (by first | (with_reducible assumption) | assumption)
                            have hx24 := bt_at t195 x5_2
                            replace p24 := eq_true p24
                            replace q24 := eq_true q24
                            have p27 : 0 ≤ (x5_2 : Int) := of_decide_eq_true (by first | (with_reducible assumption) | assumption)
                            have q27 : x5_2 < (t195.size : Int) := of_decide_eq_true (by first | (with_reducible assumption) | assumption)
                            have hx27 := bt_at t195 x5_2
                            replace p27 := eq_true p27
                            replace q27 := eq_true q27
                            go_wp2
                            go_roundg k2
                            case measure => have := HJ3.out; have := HK2.out; omega
                            case rel => exact ⟨(!true), (wrap64 (x5_2 + 1)), (by first | rfl | (simp; done) | (simp [*]; done)), (by first | rfl | (simp; done) | (simp [*]; done)), H', ⟨by have := HJ3.out; have := HK2.out; omega⟩, ⟨by repeat (first | (with_reducible first | exact HB.out | apply below_alloc | apply pw_below_drewN | apply below_drew1) | exact HB.out)⟩⟩
                          · rw [if_neg c28] at H
                            have c28b0 : ((bt t195 x5_2) == 92) = false := beq_eq_false_iff_ne.mpr c28
                            have c28b1 : ((bt t195 x5_2) != 92) = true := bne_iff_ne.mpr c28
                            have H' := Aside0.mk H
                            clear H
                            have p20 : 0 ≤ (x5_2 : Int) := of_decide_eq_true (by first | (with_reducible assumption) | assumption)
                            have q20 : x5_2 < (t195.size : Int) := of_decide_eq_true (by first | (with_reducible assumption) | assumption)
                            have hx20 := bt_at t195 x5_2
                            replace p20 := eq_true p20
                            replace q20 := eq_true q20
                            have p22 : 0 ≤ (x5_2 : Int) := of_decide_eq_true (by first | (with_reducible assumption) | assumption)
                            have q22 : x5_2 < (t195.size : Int) := of_decide_eq_true (by first | (with_reducible assumption) | assumption)
                            have hx22 := bt_at t195 x5_2
                            replace p22 := eq_true p22
                            replace q22 := eq_true q22
                            have p24 : 0 ≤ (x5_2 : Int) := of_decide_eq_true (by first | (with_reducible assumption) | assumption)
                            have q24 : x5_2 < (t195.size : Int) := of_decide_eq_true (by first | (with_reducible assumption) | assumption)
                            have hx24 := bt_at t195 x5_2
                            replace p24 := eq_true p24
                            replace q24 := eq_true q24
                            have p27 : 0 ≤ (x5_2 : Int) := of_decide_eq_true (by first | (with_reducible assumption) | assumption)
                            have q27 : x5_2 < (t195.size : Int) := of_decide_eq_true (by first | (with_reducible assumption) | assumption)
                            have hx27 := bt_at t195 x5_2
                            replace p27 := eq_true p27
                            replace q27 := eq_true q27
                            go_wp2
                            go_roundg k2
                            case measure => have := HJ3.out; have := HK2.out; omega
                            case rel => exact ⟨(false), (wrap64 (x5_2 + 1)), (by first | rfl | (simp; done) | (simp [*]; done)), (by first | rfl | (simp; done) | (simp [*]; done)), H', ⟨by have := HJ3.out; have := HK2.out; omega⟩, ⟨by repeat (first | (with_reducible first | exact HB.out | apply below_alloc | apply pw_below_drewN | apply below_drew1) | exact HB.out)⟩⟩
                        · replace c26 := Bool.eq_false_iff.mpr c26
                          subst c26
                          have H1 : (some false) = some r := by rw [if_neg (show ¬ (false = true) by decide)] at H; exact H
                          clear H
                          have H := H1
                          clear H1
                          obtain rfl := Option.some.inj H
                          have p20 : 0 ≤ (x5_2 : Int) := of_decide_eq_true (by first | (with_reducible assumption) | assumption)
                          have q20 : x5_2 < (t195.size : Int) := of_decide_eq_true (by first | (with_reducible assumption) | assumption)
                          have hx20 := bt_at t195 x5_2
                          replace p20 := eq_true p20
                          replace q20 := eq_true q20
                          have p22 : 0 ≤ (x5_2 : Int) := of_decide_eq_true (by first | (with_reducible assumption) | assumption)
                          have q22 : x5_2 < (t195.size : Int) := of_decide_eq_true (by first | (with_reducible assumption) | assumption)
                          have hx22 := bt_at t195 x5_2
                          replace p22 := eq_true p22
                          replace q22 := eq_true q22
                          have p24 : 0 ≤ (x5_2 : Int) := of_decide_eq_true (by first | (with_reducible assumption) | assumption)
                          have q24 : x5_2 < (t195.size : Int) := of_decide_eq_true (by first | (with_reducible assumption) | assumption)
                          have hx24 := bt_at t195 x5_2
                          replace p24 := eq_true p24
                          replace q24 := eq_true q24
                          go_wp2
                          go_ret
                          exact ⟨by first | rfl | (simp [errW_none, errW_some] <;> rfl) | (simp [*, errW_none, errW_some] <;> rfl), by repeat (first | (with_reducible first | exact HB.out | apply below_alloc | apply pw_below_drewN | apply below_drew1) | exact HB.out)⟩
                      · rw [if_neg c25] at H
                        have c25b0 : ((bt t195 x5_2) == 34) = false := beq_eq_false_iff_ne.mpr c25
                        have c25b1 : ((bt t195 x5_2) != 34) = true := bne_iff_ne.mpr c25
                        by_cases c30 : (bt t195 x5_2) = 92
                        · rw [if_pos c30] at H
                          have c30b0 : ((bt t195 x5_2) == 92) = true := beq_iff_eq.mpr c30
                          have c30b1 : ((bt t195 x5_2) != 92) = false := bne_eq_false_iff_eq.mpr c30
                          clear c30
                          have H' := Aside0.mk H
                          clear H
                          have p20 : 0 ≤ (x5_2 : Int) := of_decide_eq_true (by first | (with_reducible assumption) | assumption)
                          have q20 : x5_2 < (t195.size : Int) := of_decide_eq_true (by first | (with_reducible assumption) | assumption)
                          have hx20 := bt_at t195 x5_2
                          replace p20 := eq_true p20
                          replace q20 := eq_true q20
                          have p22 : 0 ≤ (x5_2 : Int) := of_decide_eq_true (by first | (with_reducible assumption) | assumption)
                          have q22 : x5_2 < (t195.size : Int) := of_decide_eq_true (by first | (with_reducible assumption) | assumption)
                          have hx22 := bt_at t195 x5_2
                          replace p22 := eq_true p22
                          replace q22 := eq_true q22
                          have p24 : 0 ≤ (x5_2 : Int) := of_decide_eq_true (by first | (with_reducible assumption) | assumption)
                          have q24 : x5_2 < (t195.size : Int) := of_decide_eq_true (by first | (with_reducible assumption) | assumption)
                          have hx24 := bt_at t195 x5_2
                          replace p24 := eq_true p24
                          replace q24 := eq_true q24
                          have p29 : 0 ≤ (x5_2 : Int) := of_decide_eq_true (by first | (with_reducible assumption) | assumption)
                          have q29 : x5_2 < (t195.size : Int) := of_decide_eq_true (by first | (with_reducible assumption) | assumption)
                          have hx29 := bt_at t195 x5_2
                          replace p29 := eq_true p29
                          replace q29 := eq_true q29
                          go_wp2
                          go_roundg k2
                          case measure => have := HJ3.out; have := HK2.out; omega
                          case rel => exact ⟨(!x4_2), (wrap64 (x5_2 + 1)), (by first | rfl | (simp; done) | (simp [*]; done)), (by first | rfl | (simp; done) | (simp [*]; done)), H', ⟨by have := HJ3.out; have := HK2.out; omega⟩, ⟨by repeat (first | (with_reducible first | exact HB.out | apply below_alloc | apply pw_below_drewN | apply below_drew1) | exact HB.out)⟩⟩
                        · rw [if_neg c30] at H
                          have c30b0 : ((bt t195 x5_2) == 92) = false := beq_eq_false_iff_ne.mpr c30
                          have c30b1 : ((bt t195 x5_2) != 92) = true := bne_iff_ne.mpr c30
                          have H' := Aside0.mk H
                          clear H
                          have p20 : 0 ≤ (x5_2 : Int) := of_decide_eq_true (by first | (with_reducible assumption) | assumption)
                          have q20 : x5_2 < (t195.size : Int) := of_decide_eq_true (by first | (with_reducible assumption) | assumption)
                          have hx20 := bt_at t195 x5_2
                          replace p20 := eq_true p20
                          replace q20 := eq_true q20
                          have p22 : 0 ≤ (x5_2 : Int) := of_decide_eq_true (by first | (with_reducible assumption) | assumption)
                          have q22 : x5_2 < (t195.size : Int) := of_decide_eq_true (by first | (with_reducible assumption) | assumption)
                          have hx22 := bt_at t195 x5_2
                          replace p22 := eq_true p22
                          replace q22 := eq_true q22
                          have p24 : 0 ≤ (x5_2 : Int) := of_decide_eq_true (by first | (with_reducible assumption) | assumption)
                          have q24 : x5_2 < (t195.size : Int) := of_decide_eq_true (by first | (with_reducible assumption) | assumption)
                          have hx24 := bt_at t195 x5_2
                          replace p24 := eq_true p24
                          replace q24 := eq_true q24
                          have p29 : 0 ≤ (x5_2 : Int) := of_decide_eq_true (by first | (with_reducible assumption) | assumption)
                          have q29 : x5_2 < (t195.size : Int) := of_decide_eq_true (by first | (with_reducible assumption) | assumption)
                          have hx29 := bt_at t195 x5_2
                          replace p29 := eq_true p29
                          replace q29 := eq_true q29
                          go_wp2
                          go_roundg k2
                          case measure => have := HJ3.out; have := HK2.out; omega
                          case rel => exact ⟨(false), (wrap64 (x5_2 + 1)), (by first | rfl | (simp; done) | (simp [*]; done)), (by first | rfl | (simp; done) | (simp [*]; done)), H', ⟨by have := HJ3.out; have := HK2.out; omega⟩, ⟨by repeat (first | (with_reducible first | exact HB.out | apply below_alloc | apply pw_below_drewN | apply below_drew1) | exact HB.out)⟩⟩
                · rw [if_neg c19] at H
                  exact absurd H (by simp)
              · rw [if_neg c18] at H
                exact absurd H (by simp)
            · rw [if_neg c17] at H
              have c17b0 : decide (x5_2 < (wrap64 ((t195.size : Int) - 1))) = false := decide_eq_false c17
              clear c17
              by_cases c31 : x4_2 = true
              · subst c31
                have H1 : (some false) = some r := by rw [if_pos rfl] at H; exact H
                clear H
                have H := H1
                clear H1
                obtain rfl := Option.some.inj H
                go_wp2
                go_ret
                exact ⟨by first | rfl | (simp [errW_none, errW_some] <;> rfl) | (simp [*, errW_none, errW_some] <;> rfl), by repeat (first | (with_reducible first | exact HB.out | apply below_alloc | apply pw_below_drewN | apply below_drew1) | exact HB.out)⟩
              · replace c31 := Bool.eq_false_iff.mpr c31
                subst c31
                have H1 : ((selvagelaw03_lives.f k2).bind fun t196 => (some t196)) = some r := by rw [if_neg (show ¬ (false = true) by decide)] at H; exact H
                clear H
                have H := H1
                clear H1
                replace H := Option.bind_eq_some_iff.mp H
                obtain ⟨t196, A320, H⟩ := H
                replace H : (some t196) = some r := H
                have A32 := Aside0.mk A320
                clear A320
                obtain rfl := Option.some.inj H
                go_wp2_with (first | (go_at_call 16; (with_reducible refine (selvagelaw03_lives.calls k2  t196 _ A32.out).mono ?_); rintro e w33 ⟨rfl, hb⟩; have n0_ := Aside0.mk (below_step (by repeat (first | (with_reducible first | exact HB.out | apply below_alloc | apply pw_below_drewN | apply below_drew1) | exact HB.out)) hb); clear HB; have HB := n0_; clear n0_; (try clear hb); (try clear hb2); (try clear hk); (try clear hi)))
                go_ret
                exact ⟨by first | rfl | (simp [errW_none, errW_some] <;> rfl) | (simp [*, errW_none, errW_some] <;> rfl), by repeat (first | (with_reducible first | exact HB.out | apply below_alloc | apply pw_below_drewN | apply below_drew1) | exact HB.out)⟩

/-- THE ONE PURE STATEMENT of selvagelaw03_StrsPlain: yours. -/
def selvagelaw03_StrsPlain.Pure : Prop := ∀ (a0 : ByteArray), a0.size ≤ 140737488351232 → ∃ k, selvagelaw03_StrsPlain.f k a0 = some true
theorem selvagelaw03_StrsPlain.walk (P : selvagelaw03_StrsPlain.Pure) (a0 : ByteArray) (w : World) (w0 : a0.size ≤ 140737488351232) :
    Calls Try.prog 8 #[.string a0] w fun e w' => e = .returned (.bool true) ∧ Below w.heap.size w w' := by
  obtain ⟨k, h⟩ := P a0 w0
  refine (selvagelaw03_StrsPlain.calls k a0 true w h).mono ?_
  rintro e w' ⟨rfl, hd⟩
  exact ⟨rfl, hd⟩

end Go.Proofs.Ytobkalblncefbaa.Q
