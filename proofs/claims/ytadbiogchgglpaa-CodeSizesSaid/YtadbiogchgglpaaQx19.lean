-- PRINTED by print.py (a twelfth state) out of the translation. Not trusted: Lean checks it.
import Derived.Test.YtadbiogchgglpaaQx0
import Derived.Test.YtadbiogchgglpaaQx4
import Derived.Test.YtadbiogchgglpaaQx12
import Derived.Test.YtadbiogchgglpaaQx17
namespace Go.Proofs.Ytadbiogchgglpaa.Q
open Go.RowKit Go.Proofs.YtadbiogchgglpaaW.PrintWords Go.Proofs.YtadbiogchgglpaaW.PrintLast Go.Proofs.YtadbiogchgglpaaW.PrintMore
attribute [local go_sem] max2_int min2_int max_two min_two max_three min_three max_four min_four   -- for this text's walks alone
set_option linter.unusedVariables false
set_option linter.unusedSimpArgs false

/-! ### selvagelaw13_CodeUses: function 4 -/
def selvagelaw13_CodeUses.f (k : Nat) (a0 : Int) : Option (Bool) := (code_Uses.f k a0).bind fun t339 => ((selvageref13_Uses.f k a0).bind fun t340 => (if t339 = t340 then ((selvagelaw13_lives.f k).bind fun t341 => (some t341)) else (some false)))
theorem selvagelaw13_CodeUses.mono : ∀ a0 k, LeO (selvagelaw13_CodeUses.f k a0) (selvagelaw13_CodeUses.f (k + 1) a0) := by
  intro a0 k
  unfold selvagelaw13_CodeUses.f
  repeat' first
      | (with_reducible exact code_Uses.mono _ _)
      | (with_reducible exact selvagelaw13_lives.mono _)
      | (with_reducible exact selvageref13_Uses.mono _ _)
      | (with_reducible exact LeO.refl _)
      | (with_reducible exact LeO.none _)
      | (with_reducible refine LeO.ite ?_ ?_)
      | (with_reducible refine LeO.bind ?_ (fun _ => ?_))
      | exact code_Uses.mono _ _
      | exact selvagelaw13_lives.mono _
      | exact selvageref13_Uses.mono _ _
      | exact LeO.none _
      | refine LeO.ite ?_ ?_
      | refine LeO.bind ?_ (fun _ => ?_)
set_option maxHeartbeats 8000000 in
set_option maxRecDepth 100000 in
theorem selvagelaw13_CodeUses.calls (k : Nat) (a0 : Int) (r : Bool) (w : World) (h : selvagelaw13_CodeUses.f k a0 = some r) :
    Calls Try.prog 4 #[.int .i64 a0] w fun e w' => e = .returned (.bool r) ∧ Below w.heap.size w w' := by
  have HB := Aside0.mk (Below.refl w.heap.size w)
  have H : ((code_Uses.f k a0).bind fun t339 => ((selvageref13_Uses.f k a0).bind fun t340 => (if t339 = t340 then ((selvagelaw13_lives.f k).bind fun t341 => (some t341)) else (some false)))) = some r := h
  clear h
  replace H := Option.bind_eq_some_iff.mp H
  obtain ⟨t339, A20, H⟩ := H
  replace H : ((selvageref13_Uses.f k a0).bind fun t340 => (if t339 = t340 then ((selvagelaw13_lives.f k).bind fun t341 => (some t341)) else (some false))) = some r := H
  have A2 := Aside0.mk A20
  clear A20
  replace H := Option.bind_eq_some_iff.mp H
  obtain ⟨t340, A30, H⟩ := H
  replace H : (if t339 = t340 then ((selvagelaw13_lives.f k).bind fun t341 => (some t341)) else (some false)) = some r := H
  have A3 := Aside0.mk A30
  clear A30
  by_cases c4 : t339 = t340
  · rw [if_pos c4] at H
    have c4b0 : (t339 == t340) = true := beq_iff_eq.mpr c4
    have c4b1 : (t339 != t340) = false := bne_eq_false_iff_eq.mpr c4
    clear c4
    replace H := Option.bind_eq_some_iff.mp H
    obtain ⟨t341, A50, H⟩ := H
    replace H : (some t341) = some r := H
    have A5 := Aside0.mk A50
    clear A50
    obtain rfl := Option.some.inj H
    go_enter Try.func4, Try.ntmps4
    go_wp2_with (first | ((with_reducible refine gate_callee (f := 16) rfl ?_); refine goesL_ (some 4) rfl rfl Try.func16 (by kernel_rfl) rfl #[.int .i64 a0] rfl (by (try simp only [List.map_toArray, List.map_cons, List.map_nil]); first | done | rfl | (simp only [List.length_drop, List.length_take]; rfl)) ?_; (with_reducible refine (code_Uses.calls k a0 t339 _ A2.out).mono ?_); rintro e w' ⟨rfl, ⟨nd, rfl⟩⟩; refine ⟨_, rfl, ?_⟩) | ((with_reducible refine gate_callee (f := 17) rfl ?_); refine goesL_ (some 6) rfl rfl Try.func17 (by kernel_rfl) rfl #[.int .i64 a0] rfl (by (try simp only [List.map_toArray, List.map_cons, List.map_nil]); first | done | rfl | (simp only [List.length_drop, List.length_take]; rfl)) ?_; (with_reducible refine (selvageref13_Uses.calls k a0 t340 _ A3.out).mono ?_); rintro e w6 ⟨rfl, hb⟩; refine ⟨_, rfl, ?_⟩; have n0_ := Aside0.mk (below_step (by repeat (first | (with_reducible first | exact HB.out | apply below_alloc | apply pw_below_drewN | apply below_drew1) | exact HB.out)) hb); clear HB; have HB := n0_; clear n0_; (try clear hb); (try clear hb2); (try clear hk); (try clear hi)) | (go_at_call 15; (with_reducible refine (selvagelaw13_lives.calls k  t341 _ A5.out).mono ?_); rintro e w7 ⟨rfl, hb⟩; have n0_ := Aside0.mk (below_step (by repeat (first | (with_reducible first | exact HB.out | apply below_alloc | apply pw_below_drewN | apply below_drew1) | exact HB.out)) hb); clear HB; have HB := n0_; clear n0_; (try clear hb); (try clear hb2); (try clear hk); (try clear hi)))
    go_ret
    exact ⟨by first | rfl | (simp [errW_none, errW_some] <;> rfl) | (simp [*, errW_none, errW_some] <;> rfl), by repeat (first | (with_reducible first | exact HB.out | apply below_alloc | apply pw_below_drewN | apply below_drew1) | exact HB.out)⟩
  · rw [if_neg c4] at H
    have c4b0 : (t339 == t340) = false := beq_eq_false_iff_ne.mpr c4
    have c4b1 : (t339 != t340) = true := bne_iff_ne.mpr c4
    obtain rfl := Option.some.inj H
    go_enter Try.func4, Try.ntmps4
    go_wp2_with (first | ((with_reducible refine gate_callee (f := 16) rfl ?_); refine goesL_ (some 4) rfl rfl Try.func16 (by kernel_rfl) rfl #[.int .i64 a0] rfl (by (try simp only [List.map_toArray, List.map_cons, List.map_nil]); first | done | rfl | (simp only [List.length_drop, List.length_take]; rfl)) ?_; (with_reducible refine (code_Uses.calls k a0 t339 _ A2.out).mono ?_); rintro e w' ⟨rfl, ⟨nd, rfl⟩⟩; refine ⟨_, rfl, ?_⟩) | ((with_reducible refine gate_callee (f := 17) rfl ?_); refine goesL_ (some 6) rfl rfl Try.func17 (by kernel_rfl) rfl #[.int .i64 a0] rfl (by (try simp only [List.map_toArray, List.map_cons, List.map_nil]); first | done | rfl | (simp only [List.length_drop, List.length_take]; rfl)) ?_; (with_reducible refine (selvageref13_Uses.calls k a0 t340 _ A3.out).mono ?_); rintro e w8 ⟨rfl, hb⟩; refine ⟨_, rfl, ?_⟩; have n0_ := Aside0.mk (below_step (by repeat (first | (with_reducible first | exact HB.out | apply below_alloc | apply pw_below_drewN | apply below_drew1) | exact HB.out)) hb); clear HB; have HB := n0_; clear n0_; (try clear hb); (try clear hb2); (try clear hk); (try clear hi)))
    go_ret
    exact ⟨by first | rfl | (simp [errW_none, errW_some] <;> rfl) | (simp [*, errW_none, errW_some] <;> rfl), by repeat (first | (with_reducible first | exact HB.out | apply below_alloc | apply pw_below_drewN | apply below_drew1) | exact HB.out)⟩

/-- THE ONE PURE STATEMENT of selvagelaw13_CodeUses: yours. -/
def selvagelaw13_CodeUses.Pure : Prop := ∀ (a0 : Int), (Lit.int .i64 a0).wf = true → ∃ k, selvagelaw13_CodeUses.f k a0 = some true
theorem selvagelaw13_CodeUses.walk (P : selvagelaw13_CodeUses.Pure) (a0 : Int) (w : World) (w0 : (Lit.int .i64 a0).wf = true) :
    Calls Try.prog 4 #[.int .i64 a0] w fun e w' => e = .returned (.bool true) ∧ Below w.heap.size w w' := by
  obtain ⟨k, h⟩ := P a0 w0
  refine (selvagelaw13_CodeUses.calls k a0 true w h).mono ?_
  rintro e w' ⟨rfl, hd⟩
  exact ⟨rfl, hd⟩

/-! ### selvagelaw13_size: function 18 -/
def selvagelaw13_size.f (a0 : Int) (a1 : Int) : Option (Int) := if a0 < 0 then (if (wrap64 (a1 + 1)) = 0 then (none) else (some (Int.tmod (wrap64 (-(wrap64 (a0 + 1)))) (wrap64 (a1 + 1))))) else (if (wrap64 (a1 + 1)) = 0 then (none) else (some (Int.tmod a0 (wrap64 (a1 + 1)))))
set_option maxHeartbeats 8000000 in
set_option maxRecDepth 100000 in
theorem selvagelaw13_size.calls (a0 : Int) (a1 : Int) (r : Int) (w : World) (h : selvagelaw13_size.f a0 a1 = some r) :
    Calls Try.prog 18 #[.int .i64 a0, .int .i64 a1] w fun e w' => e = .returned (.int .i64 r) ∧ Drawn0 w w' := by
  have H : (if a0 < 0 then (if (wrap64 (a1 + 1)) = 0 then (none) else (some (Int.tmod (wrap64 (-(wrap64 (a0 + 1)))) (wrap64 (a1 + 1))))) else (if (wrap64 (a1 + 1)) = 0 then (none) else (some (Int.tmod a0 (wrap64 (a1 + 1)))))) = some r := h
  clear h
  by_cases c3 : a0 < 0
  · rw [if_pos c3] at H
    have c3b0 : decide (a0 < 0) = true := decide_eq_true c3
    clear c3
    by_cases c4 : (wrap64 (a1 + 1)) = 0
    · rw [if_pos c4] at H
      exact absurd H (by simp)
    · rw [if_neg c4] at H
      have c4b0 : ((wrap64 (a1 + 1)) == 0) = false := beq_eq_false_iff_ne.mpr c4
      have c4b1 : ((wrap64 (a1 + 1)) != 0) = true := bne_iff_ne.mpr c4
      obtain rfl := Option.some.inj H
      go_enter Try.func18, Try.ntmps18
      go_wp2
      go_ret
      exact ⟨by first | rfl | (simp; done) | (simp [*]; done), by repeat (first | exact Drawn0.refl _ | apply Drawn0.step)⟩
  · rw [if_neg c3] at H
    have c3b0 : decide (a0 < 0) = false := decide_eq_false c3
    clear c3
    by_cases c5 : (wrap64 (a1 + 1)) = 0
    · rw [if_pos c5] at H
      exact absurd H (by simp)
    · rw [if_neg c5] at H
      have c5b0 : ((wrap64 (a1 + 1)) == 0) = false := beq_eq_false_iff_ne.mpr c5
      have c5b1 : ((wrap64 (a1 + 1)) != 0) = true := bne_iff_ne.mpr c5
      obtain rfl := Option.some.inj H
      go_enter Try.func18, Try.ntmps18
      go_wp2
      go_ret
      exact ⟨by first | rfl | (simp; done) | (simp [*]; done), by repeat (first | exact Drawn0.refl _ | apply Drawn0.step)⟩

end Go.Proofs.Ytadbiogchgglpaa.Q
