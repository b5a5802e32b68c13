-- PRINTED by print.py (a twelfth state) out of the translation. Not trusted: Lean checks it.
import Derived.Test.YtobkalblncefbaaQx0
import Derived.Test.YtobkalblncefbaaQx17
namespace Go.Proofs.Ytobkalblncefbaa.Q
open Go.RowKit Go.Proofs.YtobkalblncefbaaW.PrintWords Go.Proofs.YtobkalblncefbaaW.PrintLast Go.Proofs.YtobkalblncefbaaW.PrintMore
attribute [local go_sem] max2_int min2_int max_two min_two max_three min_three max_four min_four   -- for this text's walks alone
set_option linter.unusedVariables false
set_option linter.unusedSimpArgs false

/-! ### selvageref03_Unquote: function 20 -/
mutual
def selvageref03_Unquote.j0 : Nat → ByteArray → Bool → Option (ByteArray × Int × Int)
  | 0, _, _ => none
  | k + 1, x0, x19 => if x19 = true then (some ((⟨#[]⟩ : ByteArray), 0, 14)) else (selvageref03_Unquote.l0 k x0 ([] : List Int) 1)
def selvageref03_Unquote.l0 : Nat → ByteArray → List Int → Int → Option (ByteArray × Int × Int)
  | 0, _, _, _ => none
  | k + 1, x0, x5, x6 => if x6 < (x0.size : Int) then (if 0 ≤ x6 then (selvageref03_Unquote.j2 k x0 x5 x6 ((bt x0 x6) != 34)) else (none)) else (selvageref03_Unquote.j2 k x0 x5 x6 false)
def selvageref03_Unquote.j2 : Nat → ByteArray → List Int → Int → Bool → Option (ByteArray × Int × Int)
  | 0, _, _, _, _ => none
  | k + 1, x0, x5, x6, x29 => if x29 = true then (if 0 ≤ x6 then (if x6 < (x0.size : Int) then (if (bt x0 x6) = 10 then (some ((⟨#[]⟩ : ByteArray), 0, 11)) else (if (bt x0 x6) < 32 then (selvageref03_Unquote.j3 k x0 x5 x6 (bt x0 x6) true) else (selvageref03_Unquote.j3 k x0 x5 x6 (bt x0 x6) (decide ((bt x0 x6) > 126))))) else (none)) else (none)) else (if x6 ≥ (x0.size : Int) then (some ((⟨#[]⟩ : ByteArray), 0, 11)) else (if (x5.length : Int) > 60 then (some ((⟨#[]⟩ : ByteArray), 0, 12)) else (some (strOfNums x5, wrap64 (x6 + 1), 0))))
def selvageref03_Unquote.j3 : Nat → ByteArray → List Int → Int → Int → Bool → Option (ByteArray × Int × Int)
  | 0, _, _, _, _, _ => none
  | k + 1, x0, x5, x6, x7, x40 => if x40 = true then (some ((⟨#[]⟩ : ByteArray), 0, 10)) else (if x7 = 92 then (if (wrap64 (x6 + 1)) ≥ (x0.size : Int) then (some ((⟨#[]⟩ : ByteArray), 0, 11)) else (if 0 ≤ (wrap64 (x6 + 1)) then (if (wrap64 (x6 + 1)) < (x0.size : Int) then (if (bt x0 (wrap64 (x6 + 1))) = 110 then (if x5.length < 140737488355328 then (selvageref03_Unquote.l0 k x0 (x5 ++ [10]) (wrap64 ((wrap64 (x6 + 1)) + 1))) else (none)) else (if (bt x0 (wrap64 (x6 + 1))) = 34 then (selvageref03_Unquote.j4 k x0 x5 (wrap64 ((wrap64 (x6 + 1)) + 1)) (bt x0 (wrap64 (x6 + 1))) true) else (selvageref03_Unquote.j4 k x0 x5 (wrap64 ((wrap64 (x6 + 1)) + 1)) (bt x0 (wrap64 (x6 + 1))) ((bt x0 (wrap64 (x6 + 1))) == 92)))) else (none)) else (none))) else (if x5.length < 140737488355328 then (selvageref03_Unquote.l0 k x0 (x5 ++ [x7]) (wrap64 (x6 + 1))) else (none)))
def selvageref03_Unquote.j4 : Nat → ByteArray → List Int → Int → Int → Bool → Option (ByteArray × Int × Int)
  | 0, _, _, _, _, _ => none
  | k + 1, x0, x5, x6, x8, x68 => if x68 = true then (if x5.length < 140737488355328 then (selvageref03_Unquote.l0 k x0 (x5 ++ [x8]) x6) else (none)) else (if x8 = 120 then (selvageref03_Unquote.l1 k x0 x5 x6 0 0) else (some ((⟨#[]⟩ : ByteArray), 0, 10)))
def selvageref03_Unquote.l1 : Nat → ByteArray → List Int → Int → Int → Int → Option (ByteArray × Int × Int)
  | 0, _, _, _, _, _ => none
  | k + 1, x0, x5, x6, x9, x10 => if x10 < 2 then (if x6 ≥ (x0.size : Int) then (some ((⟨#[]⟩ : ByteArray), 0, 11)) else (if 0 ≤ x6 then (if x6 < (x0.size : Int) then ((selvageref03_digit.f k (bt x0 x6)).bind fun t171 => (if t171 < 0 then (some ((⟨#[]⟩ : ByteArray), 0, 10)) else (selvageref03_Unquote.l1 k x0 x5 (wrap64 (x6 + 1)) (wrap64 ((wrap64 (16 * x9)) + t171)) (wrap64 (x10 + 1))))) else (none)) else (none))) else (if x5.length < 140737488355328 then (selvageref03_Unquote.l0 k x0 (x5 ++ [(x9) % 256]) x6) else (none))
end
def selvageref03_Unquote.f (k : Nat) (a0 : ByteArray) : Option (ByteArray × Int × Int) := if (a0.size : Int) = 0 then (selvageref03_Unquote.j0 k a0 true) else (if 0 < (a0.size : Int) then (selvageref03_Unquote.j0 k a0 ((bt a0 0) != 34)) else (none))
theorem selvageref03_Unquote.mono_l : ∀ k, (∀ y0 y1, LeO (selvageref03_Unquote.j0 k y0 y1) (selvageref03_Unquote.j0 (k + 1) y0 y1)) ∧ (∀ y0 y1 y2, LeO (selvageref03_Unquote.l0 k y0 y1 y2) (selvageref03_Unquote.l0 (k + 1) y0 y1 y2)) ∧ (∀ y0 y1 y2 y3, LeO (selvageref03_Unquote.j2 k y0 y1 y2 y3) (selvageref03_Unquote.j2 (k + 1) y0 y1 y2 y3)) ∧ (∀ y0 y1 y2 y3 y4, LeO (selvageref03_Unquote.j3 k y0 y1 y2 y3 y4) (selvageref03_Unquote.j3 (k + 1) y0 y1 y2 y3 y4)) ∧ (∀ y0 y1 y2 y3 y4, LeO (selvageref03_Unquote.j4 k y0 y1 y2 y3 y4) (selvageref03_Unquote.j4 (k + 1) y0 y1 y2 y3 y4)) ∧ (∀ y0 y1 y2 y3 y4, LeO (selvageref03_Unquote.l1 k y0 y1 y2 y3 y4) (selvageref03_Unquote.l1 (k + 1) y0 y1 y2 y3 y4))
  | 0 => ⟨fun _ _ r h => by simp [selvageref03_Unquote.j0] at h, fun _ _ _ r h => by simp [selvageref03_Unquote.l0] at h, fun _ _ _ _ r h => by simp [selvageref03_Unquote.j2] at h, fun _ _ _ _ _ r h => by simp [selvageref03_Unquote.j3] at h, fun _ _ _ _ _ r h => by simp [selvageref03_Unquote.j4] at h, fun _ _ _ _ _ r h => by simp [selvageref03_Unquote.l1] at h⟩
  | k + 1 => by
    obtain ⟨ih0, ih1, ih2, ih3, ih4, ih5⟩ := selvageref03_Unquote.mono_l k
    refine ⟨?_, ?_, ?_, ?_, ?_, ?_⟩
    · intro y0 y1
      unfold selvageref03_Unquote.j0
      repeat' first
      | (with_reducible exact ih0 _ _)
      | (with_reducible exact ih1 _ _ _)
      | (with_reducible exact ih2 _ _ _ _)
      | (with_reducible exact ih3 _ _ _ _ _)
      | (with_reducible exact ih4 _ _ _ _ _)
      | (with_reducible exact ih5 _ _ _ _ _)
      | (with_reducible exact selvageref03_digit.mono _ _)
      | (with_reducible exact LeO.refl _)
      | (with_reducible exact LeO.none _)
      | (with_reducible refine LeO.ite ?_ ?_)
      | (with_reducible refine LeO.bind ?_ (fun _ => ?_))
      | exact ih0 _ _
      | exact ih1 _ _ _
      | exact ih2 _ _ _ _
      | exact ih3 _ _ _ _ _
      | exact ih4 _ _ _ _ _
      | exact ih5 _ _ _ _ _
      | exact selvageref03_digit.mono _ _
      | exact LeO.none _
      | refine LeO.ite ?_ ?_
      | refine LeO.bind ?_ (fun _ => ?_)
    · intro y0 y1 y2
      unfold selvageref03_Unquote.l0
      repeat' first
      | (with_reducible exact ih0 _ _)
      | (with_reducible exact ih1 _ _ _)
      | (with_reducible exact ih2 _ _ _ _)
      | (with_reducible exact ih3 _ _ _ _ _)
      | (with_reducible exact ih4 _ _ _ _ _)
      | (with_reducible exact ih5 _ _ _ _ _)
      | (with_reducible exact selvageref03_digit.mono _ _)
      | (with_reducible exact LeO.refl _)
      | (with_reducible exact LeO.none _)
      | (with_reducible refine LeO.ite ?_ ?_)
      | (with_reducible refine LeO.bind ?_ (fun _ => ?_))
      | exact ih0 _ _
      | exact ih1 _ _ _
      | exact ih2 _ _ _ _
      | exact ih3 _ _ _ _ _
      | exact ih4 _ _ _ _ _
      | exact ih5 _ _ _ _ _
      | exact selvageref03_digit.mono _ _
      | exact LeO.none _
      | refine LeO.ite ?_ ?_
      | refine LeO.bind ?_ (fun _ => ?_)
    · intro y0 y1 y2 y3
      unfold selvageref03_Unquote.j2
      repeat' first
      | (with_reducible exact ih0 _ _)
      | (with_reducible exact ih1 _ _ _)
      | (with_reducible exact ih2 _ _ _ _)
      | (with_reducible exact ih3 _ _ _ _ _)
      | (with_reducible exact ih4 _ _ _ _ _)
      | (with_reducible exact ih5 _ _ _ _ _)
      | (with_reducible exact selvageref03_digit.mono _ _)
      | (with_reducible exact LeO.refl _)
      | (with_reducible exact LeO.none _)
      | (with_reducible refine LeO.ite ?_ ?_)
      | (with_reducible refine LeO.bind ?_ (fun _ => ?_))
      | exact ih0 _ _
      | exact ih1 _ _ _
      | exact ih2 _ _ _ _
      | exact ih3 _ _ _ _ _
      | exact ih4 _ _ _ _ _
      | exact ih5 _ _ _ _ _
      | exact selvageref03_digit.mono _ _
      | exact LeO.none _
      | refine LeO.ite ?_ ?_
      | refine LeO.bind ?_ (fun _ => ?_)
    · intro y0 y1 y2 y3 y4
      unfold selvageref03_Unquote.j3
      repeat' first
      | (with_reducible exact ih0 _ _)
      | (with_reducible exact ih1 _ _ _)
      | (with_reducible exact ih2 _ _ _ _)
      | (with_reducible exact ih3 _ _ _ _ _)
      | (with_reducible exact ih4 _ _ _ _ _)
      | (with_reducible exact ih5 _ _ _ _ _)
      | (with_reducible exact selvageref03_digit.mono _ _)
      | (with_reducible exact LeO.refl _)
      | (with_reducible exact LeO.none _)
      | (with_reducible refine LeO.ite ?_ ?_)
      | (with_reducible refine LeO.bind ?_ (fun _ => ?_))
      | exact ih0 _ _
      | exact ih1 _ _ _
      | exact ih2 _ _ _ _
      | exact ih3 _ _ _ _ _
      | exact ih4 _ _ _ _ _
      | exact ih5 _ _ _ _ _
      | exact selvageref03_digit.mono _ _
      | exact LeO.none _
      | refine LeO.ite ?_ ?_
      | refine LeO.bind ?_ (fun _ => ?_)
    · intro y0 y1 y2 y3 y4
      unfold selvageref03_Unquote.j4
      repeat' first
      | (with_reducible exact ih0 _ _)
      | (with_reducible exact ih1 _ _ _)
      | (with_reducible exact ih2 _ _ _ _)
      | (with_reducible exact ih3 _ _ _ _ _)
      | (with_reducible exact ih4 _ _ _ _ _)
      | (with_reducible exact ih5 _ _ _ _ _)
      | (with_reducible exact selvageref03_digit.mono _ _)
      | (with_reducible exact LeO.refl _)
      | (with_reducible exact LeO.none _)
      | (with_reducible refine LeO.ite ?_ ?_)
      | (with_reducible refine LeO.bind ?_ (fun _ => ?_))
      | exact ih0 _ _
      | exact ih1 _ _ _
      | exact ih2 _ _ _ _
      | exact ih3 _ _ _ _ _
      | exact ih4 _ _ _ _ _
      | exact ih5 _ _ _ _ _
      | exact selvageref03_digit.mono _ _
      | exact LeO.none _
      | refine LeO.ite ?_ ?_
      | refine LeO.bind ?_ (fun _ => ?_)
    · intro y0 y1 y2 y3 y4
      unfold selvageref03_Unquote.l1
      repeat' first
      | (with_reducible exact ih0 _ _)
      | (with_reducible exact ih1 _ _ _)
      | (with_reducible exact ih2 _ _ _ _)
      | (with_reducible exact ih3 _ _ _ _ _)
      | (with_reducible exact ih4 _ _ _ _ _)
      | (with_reducible exact ih5 _ _ _ _ _)
      | (with_reducible exact selvageref03_digit.mono _ _)
      | (with_reducible exact LeO.refl _)
      | (with_reducible exact LeO.none _)
      | (with_reducible refine LeO.ite ?_ ?_)
      | (with_reducible refine LeO.bind ?_ (fun _ => ?_))
      | exact ih0 _ _
      | exact ih1 _ _ _
      | exact ih2 _ _ _ _
      | exact ih3 _ _ _ _ _
      | exact ih4 _ _ _ _ _
      | exact ih5 _ _ _ _ _
      | exact selvageref03_digit.mono _ _
      | exact LeO.none _
      | refine LeO.ite ?_ ?_
      | refine LeO.bind ?_ (fun _ => ?_)
theorem selvageref03_Unquote.mono : ∀ a0 k, LeO (selvageref03_Unquote.f k a0) (selvageref03_Unquote.f (k + 1) a0) := by
  intro a0 k
  obtain ⟨ih0, ih1, ih2, ih3, ih4, ih5⟩ := selvageref03_Unquote.mono_l k
  unfold selvageref03_Unquote.f
  repeat' first
      | (with_reducible exact ih0 _ _)
      | (with_reducible exact ih1 _ _ _)
      | (with_reducible exact ih2 _ _ _ _)
      | (with_reducible exact ih3 _ _ _ _ _)
      | (with_reducible exact ih4 _ _ _ _ _)
      | (with_reducible exact ih5 _ _ _ _ _)
      | (with_reducible exact selvageref03_digit.mono _ _)
      | (with_reducible exact LeO.refl _)
      | (with_reducible exact LeO.none _)
      | (with_reducible refine LeO.ite ?_ ?_)
      | (with_reducible refine LeO.bind ?_ (fun _ => ?_))
      | exact ih0 _ _
      | exact ih1 _ _ _
      | exact ih2 _ _ _ _
      | exact ih3 _ _ _ _ _
      | exact ih4 _ _ _ _ _
      | exact ih5 _ _ _ _ _
      | exact selvageref03_digit.mono _ _
      | exact LeO.none _
      | refine LeO.ite ?_ ?_
      | refine LeO.bind ?_ (fun _ => ?_)
set_option maxHeartbeats 8000000 in
set_option maxRecDepth 100000 in
theorem selvageref03_Unquote.calls (k : Nat) (a0 : ByteArray) (r1 : ByteArray) (r2 : Int) (r3 : Int) (w : World) (h : selvageref03_Unquote.f k a0 = some (r1, r2, r3)) :
    Calls Try.prog 20 #[.string a0] w fun e w' => e = .returned (.tuple #[.string r1, .int .i64 r2, .int .i64 r3]) ∧ Below w.heap.size w w' := by
  have HB := Aside0.mk (Below.refl w.heap.size w)
  have H : (if (a0.size : Int) = 0 then (selvageref03_Unquote.j0 k a0 true) else (if 0 < (a0.size : Int) then (selvageref03_Unquote.j0 k a0 ((bt a0 0) != 34)) else (none))) = some (r1, r2, r3) := h
  clear h
  have HC2 := Aside0.mk H
  clear H
  go_enter Try.func20, Try.ntmps20
  go_upto_region 1 with (fail)
  go_cut [19] (fun v19 wc => ∃ (kq : Nat) (x19_1 : Bool), v19 = .bool x19_1 ∧ Aside0 (selvageref03_Unquote.j0 kq a0 x19_1 = some (r1, r2, r3)) ∧ Aside0 (kq ≤ k) ∧ Aside0 (Below w.heap.size w wc))
  case first =>
    have H := HC2.out
    clear HC2
    by_cases c3 : (a0.size : Int) = 0
    · rw [if_pos c3] at H
      have c3b0 : ((a0.size : Int) == 0) = true := beq_iff_eq.mpr c3
      have c3b1 : ((a0.size : Int) != 0) = false := bne_eq_false_iff_eq.mpr c3
      clear c3
      (first | rw [c3b0] | (simp only [i64_w, i32_w]; rw [c3b0]) | skip)
      have H' := Aside0.mk H
      clear H
      go_wp2
      go_meet
      case rel => exact ⟨_, (true), (by first | rfl | (simp; done) | (simp [*]; done)), H', ⟨by first | omega | exact Nat.le_refl _⟩, ⟨by repeat (first | (with_reducible first | exact HB.out | apply below_alloc | apply pw_below_drewN | apply below_drew1) | exact HB.out)⟩⟩
    · rw [if_neg c3] at H
      have c3b0 : ((a0.size : Int) == 0) = false := beq_eq_false_iff_ne.mpr c3
      have c3b1 : ((a0.size : Int) != 0) = true := bne_iff_ne.mpr c3
      (first | rw [c3b0] | (simp only [i64_w, i32_w]; rw [c3b0]) | skip)
      by_cases c4 : 0 < (a0.size : Int)
      · rw [if_pos c4] at H
        have c4b0 : decide (0 < (a0.size : Int)) = true := decide_eq_true c4
        have c4b1 : decide (0 < a0.size) = true := decide_eq_true (by omega)
        clear c4
        have H' := Aside0.mk H
        clear H
        have p5 : 0 ≤ (0 : Int) := (by omega)
        have q5 : 0 < a0.size := (by have : (0 : Int) < (a0.size : Int) := of_decide_eq_true (by first | (with_reducible assumption) | assumption); omega)
        have hx5 : ∀ h : 0 < a0.size, ((a0[0]'h).toNat : Int) = bt a0 0 := bt_at a0 0
        clear p5
        have qi5 : (0 < (a0.size : Int)) = True := eq_true (of_decide_eq_true (by first | (with_reducible assumption) | assumption))
        replace q5 := eq_true q5
        go_wp2
        go_meet
        case rel => exact ⟨_, (((bt a0 0) != 34)), (by first | rfl | (simp; done) | (simp [*]; done)), H', ⟨by first | omega | exact Nat.le_refl _⟩, ⟨by repeat (first | (with_reducible first | exact HB.out | apply below_alloc | apply pw_below_drewN | apply below_drew1) | exact HB.out)⟩⟩
      · rw [if_neg c4] at H
        exact absurd H (by simp)
  case rest =>
    clear HC2
    try clear c2
    try clear p2
    try clear c3
    try clear c3b0
    try clear c3b1
    try clear c4
    try clear c4b0
    try clear c4b1
    try clear p5
    try clear q5
    try clear hx5
    try clear qi5
    try clear p5
    try clear q5
    obtain ⟨kq, x19_1, rfl, HA, HJ1, HB⟩ := hcut
    cases kq with
    | zero => exact absurd HA.out (by simp [selvageref03_Unquote.j0])
    | succ kj1 =>
      have H := HA.out
      clear HA
      simp only [selvageref03_Unquote.j0] at H
      by_cases c6 : x19_1 = true
      · subst c6
        have H1 : (some ((⟨#[]⟩ : ByteArray), 0, 14)) = some (r1, r2, r3) := by rw [if_pos rfl] at H; exact H
        clear H
        have H := H1
        clear H1
        simp only [Option.some.injEq, Prod.mk.injEq] at H
        obtain ⟨rfl, rfl, rfl⟩ := H
        go_wp2
        go_ret3
        exact ⟨by first | rfl | (simp [errW_none, errW_some] <;> rfl) | (simp [*, errW_none, errW_some] <;> rfl), by repeat (first | (with_reducible first | exact HB.out | apply below_alloc | apply pw_below_drewN | apply below_drew1) | exact HB.out)⟩
      · replace c6 := Bool.eq_false_iff.mpr c6
        subst c6
        have H1 : (selvageref03_Unquote.l0 kj1 a0 ([] : List Int) 1) = some (r1, r2, r3) := by rw [if_neg (show ¬ (false = true) by decide)] at H; exact H
        clear H
        have H := H1
        clear H1
        have H' := Aside0.mk H
        clear H
        go_wp2
        go_loopg [5, 6] kj1 (fun kq v5 v6 w' => ∃ (x5_2 : List Int) (x6_2 : Int), v6 = .int .i64 x6_2 ∧ Aside0 (selvageref03_Unquote.l0 kq a0 x5_2 x6_2 = some (r1, r2, r3)) ∧ Aside0 (kq ≤ kj1) ∧ Aside0 (Kd.R (Kd.int .u8) 5 w' w.heap.size (fun _ => True) v5 x5_2) ∧ Aside0 (Below w.heap.size w w'))
        case atStart => exact ⟨(([] : List Int)), (1), (by first | rfl | (simp; done) | (simp [*]; done)), H', ⟨Nat.le_refl _⟩, ⟨by first | exact Kd.R_nil _ _ _ _ _ | exact Kd.N_nil _ _ _ _ _ | exact Kd.V_nil _ _ _ _ _ | exact Kd.Q_nil _ _ _ _ _ | exact Kd.S_nil _ _ _ _ _⟩, ⟨by repeat (first | (with_reducible first | exact HB.out | apply below_alloc | apply pw_below_drewN | apply below_drew1) | exact HB.out)⟩⟩
        case round =>
          clear H'
          try clear c2
          try clear p2
          try clear c3
          try clear c3b0
          try clear c3b1
          try clear c4
          try clear c4b0
          try clear c4b1
          try clear p5
          try clear q5
          try clear hx5
          try clear qi5
          try clear c6
          try clear p2
          try clear p5
          try clear q5
          obtain ⟨x5_2, x6_2, rfl, HA, HK2, HO_5, HB⟩ := hrel
          cases gk with
          | zero => exact absurd HA.out (by simp [selvageref03_Unquote.l0])
          | succ k2 =>
            have H := HA.out
            clear HA
            simp only [selvageref03_Unquote.l0] at H
            have HC7 := Aside0.mk H
            clear H
            go_upto_region 5 with (fail)
            go_cut [29] (fun v29 wc => ∃ (kq : Nat) (x29_6 : Bool), v29 = .bool x29_6 ∧ Aside0 (selvageref03_Unquote.j2 kq a0 x5_2 x6_2 x29_6 = some (r1, r2, r3)) ∧ Aside0 (kq ≤ k2) ∧ Aside0 (Kd.R (Kd.int .u8) 5 wc w.heap.size (fun _ => True) u5 x5_2) ∧ Aside0 (Below w.heap.size w wc))
            case first =>
              have H := HC7.out
              clear HC7
              by_cases c8 : x6_2 < (a0.size : Int)
              · rw [if_pos c8] at H
                have c8b0 : decide (x6_2 < (a0.size : Int)) = true := decide_eq_true c8
                clear c8
                (first | rw [c8b0] | (simp only [i64_w, i32_w]; rw [c8b0]) | skip)
                by_cases c9 : 0 ≤ x6_2
                · rw [if_pos c9] at H
                  have c9b0 : decide (0 ≤ x6_2) = true := decide_eq_true c9
                  clear c9
                  have H' := Aside0.mk H
                  clear H
                  have p10 : 0 ≤ (x6_2 : Int) := of_decide_eq_true (by first | (with_reducible assumption) | assumption)
                  have q10 : x6_2 < (a0.size : Int) := of_decide_eq_true (by first | (with_reducible assumption) | assumption)
                  have hx10 := bt_at a0 x6_2
                  replace p10 := eq_true p10
                  replace q10 := eq_true q10
                  go_wp2
                  go_meet
                  case rel => exact ⟨_, (((bt a0 x6_2) != 34)), (by first | rfl | (simp; done) | (simp [*]; done)), H', ⟨by have := HJ1.out; have := HK2.out; first | omega | exact Nat.le_refl _⟩, ⟨by (with_reducible repeat (first | apply Kd.R_alloc | apply Kd.R_drewN | apply Kd.R_drew)); exact HO_5.out⟩, ⟨by repeat (first | (with_reducible first | exact HB.out | apply below_alloc | apply pw_below_drewN | apply below_drew1) | exact HB.out)⟩⟩
                · rw [if_neg c9] at H
                  exact absurd H (by simp)
              · rw [if_neg c8] at H
                have c8b0 : decide (x6_2 < (a0.size : Int)) = false := decide_eq_false c8
                clear c8
                (first | rw [c8b0] | (simp only [i64_w, i32_w]; rw [c8b0]) | skip)
                have H' := Aside0.mk H
                clear H
                go_wp2
                go_meet
                case rel => exact ⟨_, (false), (by first | rfl | (simp; done) | (simp [*]; done)), H', ⟨by have := HJ1.out; have := HK2.out; first | omega | exact Nat.le_refl _⟩, ⟨by (with_reducible repeat (first | apply Kd.R_alloc | apply Kd.R_drewN | apply Kd.R_drew)); exact HO_5.out⟩, ⟨by repeat (first | (with_reducible first | exact HB.out | apply below_alloc | apply pw_below_drewN | apply below_drew1) | exact HB.out)⟩⟩
            case rest =>
              clear HC7
              try clear p1
              try clear q1
              try clear hx1
              try clear c2
              try clear p2
              try clear c3
              try clear c3b0
              try clear c3b1
              try clear c4
              try clear c4b0
              try clear c4b1
              try clear p5
              try clear q5
              try clear hx5
              try clear qi5
              try clear c6
              try clear c8
              try clear c8b0
              try clear c9
              try clear c9b0
              try clear p10
              try clear q10
              try clear hx10
              try clear p10
              try clear p2
              try clear p5
              try clear q10
              try clear q5
              obtain ⟨kq, x29_6, rfl, HA, HJ6, HO_5, HB⟩ := hcut
              cases kq with
              | zero => exact absurd HA.out (by simp [selvageref03_Unquote.j2])
              | succ kj6 =>
                have H := HA.out
                clear HA
                simp only [selvageref03_Unquote.j2] at H
                by_cases c11 : x29_6 = true
                · subst c11
                  have H1 : (if 0 ≤ x6_2 then (if x6_2 < (a0.size : Int) then (if (bt a0 x6_2) = 10 then (some ((⟨#[]⟩ : ByteArray), 0, 11)) else (if (bt a0 x6_2) < 32 then (selvageref03_Unquote.j3 kj6 a0 x5_2 x6_2 (bt a0 x6_2) true) else (selvageref03_Unquote.j3 kj6 a0 x5_2 x6_2 (bt a0 x6_2) (decide ((bt a0 x6_2) > 126))))) else (none)) else (none)) = some (r1, r2, r3) := by rw [if_pos rfl] at H; exact H
                  clear H
                  have H := H1
                  clear H1
                  by_cases c12 : 0 ≤ x6_2
                  · rw [if_pos c12] at H
                    have c12b0 : decide (0 ≤ x6_2) = true := decide_eq_true c12
                    clear c12
                    by_cases c13 : x6_2 < (a0.size : Int)
                    · rw [if_pos c13] at H
                      have c13b0 : decide (x6_2 < (a0.size : Int)) = true := decide_eq_true c13
                      clear c13
                      by_cases c15 : (bt a0 x6_2) = 10
                      · rw [if_pos c15] at H
                        have c15b0 : ((bt a0 x6_2) == 10) = true := beq_iff_eq.mpr c15
                        have c15b1 : ((bt a0 x6_2) != 10) = false := bne_eq_false_iff_eq.mpr c15
                        clear c15
                        simp only [Option.some.injEq, Prod.mk.injEq] at H
                        obtain ⟨rfl, rfl, rfl⟩ := H
                        have p14 : 0 ≤ (x6_2 : Int) := of_decide_eq_true (by first | (with_reducible assumption) | assumption)
                        have q14 : x6_2 < (a0.size : Int) := of_decide_eq_true (by first | (with_reducible assumption) | assumption)
                        have hx14 := bt_at a0 x6_2
                        replace p14 := eq_true p14
                        replace q14 := eq_true q14
                        go_wp2
                        go_ret3
                        exact ⟨by first | rfl | (simp [errW_none, errW_some] <;> rfl) | (simp [*, errW_none, errW_some] <;> rfl), by repeat (first | (with_reducible first | exact HB.out | apply below_alloc | apply pw_below_drewN | apply below_drew1) | exact HB.out)⟩
                      · rw [if_neg c15] at H
                        have c15b0 : ((bt a0 x6_2) == 10) = false := beq_eq_false_iff_ne.mpr c15
                        have c15b1 : ((bt a0 x6_2) != 10) = true := bne_iff_ne.mpr c15
                        have HC16 := Aside0.mk H
                        clear H
                        have p14 : 0 ≤ (x6_2 : Int) := of_decide_eq_true (by first | (with_reducible assumption) | assumption)
                        have q14 : x6_2 < (a0.size : Int) := of_decide_eq_true (by first | (with_reducible assumption) | assumption)
                        have hx14 := bt_at a0 x6_2
                        replace p14 := eq_true p14
                        replace q14 := eq_true q14
                        go_upto_region 9 with (fail)
                        go_cut [40] (fun v40 wc => ∃ (kq : Nat) (x40_15 : Bool), v40 = .bool x40_15 ∧ Aside0 (selvageref03_Unquote.j3 kq a0 x5_2 x6_2 (bt a0 x6_2) x40_15 = some (r1, r2, r3)) ∧ Aside0 (kq ≤ kj6) ∧ Aside0 (Kd.R (Kd.int .u8) 5 wc w.heap.size (fun _ => True) u5 x5_2) ∧ Aside0 (Below w.heap.size w wc))
                        case first =>
                          have H := HC16.out
                          clear HC16
                          by_cases c17 : (bt a0 x6_2) < 32
                          · rw [if_pos c17] at H
                            have c17b0 : decide ((bt a0 x6_2) < 32) = true := decide_eq_true c17
                            clear c17
                            (first | rw [c17b0] | (simp only [i64_w, i32_w]; rw [c17b0]) | skip)
                            have H' := Aside0.mk H
                            clear H
                            go_wp2
                            go_meet
                            case rel => exact ⟨_, (true), (by first | rfl | (simp; done) | (simp [*]; done)), H', ⟨by have := HJ1.out; have := HK2.out; have := HJ6.out; first | omega | exact Nat.le_refl _⟩, ⟨by (with_reducible repeat (first | apply Kd.R_alloc | apply Kd.R_drewN | apply Kd.R_drew)); exact HO_5.out⟩, ⟨by repeat (first | (with_reducible first | exact HB.out | apply below_alloc | apply pw_below_drewN | apply below_drew1) | exact HB.out)⟩⟩
                          · rw [if_neg c17] at H
                            have c17b0 : decide ((bt a0 x6_2) < 32) = false := decide_eq_false c17
                            clear c17
                            (first | rw [c17b0] | (simp only [i64_w, i32_w]; rw [c17b0]) | skip)
                            have H' := Aside0.mk H
                            clear H
                            go_wp2
                            go_meet
                            case rel => exact ⟨_, (decide ((bt a0 x6_2) > 126)), (by first | rfl | (simp; done) | (simp [*]; done)), H', ⟨by have := HJ1.out; have := HK2.out; have := HJ6.out; first | omega | exact Nat.le_refl _⟩, ⟨by (with_reducible repeat (first | apply Kd.R_alloc | apply Kd.R_drewN | apply Kd.R_drew)); exact HO_5.out⟩, ⟨by repeat (first | (with_reducible first | exact HB.out | apply below_alloc | apply pw_below_drewN | apply below_drew1) | exact HB.out)⟩⟩
                        case rest =>
                          clear HC16
                          try clear c1
                          try clear p1
                          try clear q1
                          try clear hx1
                          try clear c2
                          try clear p2
                          try clear c3
                          try clear c3b0
                          try clear c3b1
                          try clear c4
                          try clear c4b0
                          try clear c4b1
                          try clear p5
                          try clear q5
                          try clear hx5
                          try clear qi5
                          try clear c6
                          try clear c8
                          try clear c8b0
                          try clear c9
                          try clear c9b0
                          try clear p10
                          try clear q10
                          try clear hx10
                          try clear c11
                          try clear c12
                          try clear c12b0
                          try clear c13
                          try clear c13b0
                          try clear p14
                          try clear q14
                          try clear hx14
                          try clear c15
                          try clear c15b0
                          try clear c15b1
                          try clear c17
                          try clear c17b0
                          try clear p1
                          try clear p10
                          try clear p14
                          try clear p2
                          try clear p5
                          try clear q1
                          try clear q10
                          try clear q14
                          try clear q5
                          obtain ⟨kq, x40_15, rfl, HA, HJ15, HO_5, HB⟩ := hcut
                          cases kq with
                          | zero => exact absurd HA.out (by simp [selvageref03_Unquote.j3])
                          | succ kj15 =>
                            have H := HA.out
                            clear HA
                            simp only [selvageref03_Unquote.j3] at H
                            by_cases c18 : x40_15 = true
                            · subst c18
                              have H1 : (some ((⟨#[]⟩ : ByteArray), 0, 10)) = some (r1, r2, r3) := by rw [if_pos rfl] at H; exact H
                              clear H
                              have H := H1
                              clear H1
                              simp only [Option.some.injEq, Prod.mk.injEq] at H
                              obtain ⟨rfl, rfl, rfl⟩ := H
                              go_wp2
                              go_ret3
                              exact ⟨by first | rfl | (simp [errW_none, errW_some] <;> rfl) | (simp [*, errW_none, errW_some] <;> rfl), by repeat (first | (with_reducible first | exact HB.out | apply below_alloc | apply pw_below_drewN | apply below_drew1) | exact HB.out)⟩
                            · replace c18 := Bool.eq_false_iff.mpr c18
                              subst c18
                              have H1 : (if (bt a0 x6_2) = 92 then (if (wrap64 (x6_2 + 1)) ≥ (a0.size : Int) then (some ((⟨#[]⟩ : ByteArray), 0, 11)) else (if 0 ≤ (wrap64 (x6_2 + 1)) then (if (wrap64 (x6_2 + 1)) < (a0.size : Int) then (if (bt a0 (wrap64 (x6_2 + 1))) = 110 then (if x5_2.length < 140737488355328 then (selvageref03_Unquote.l0 kj15 a0 (x5_2 ++ [10]) (wrap64 ((wrap64 (x6_2 + 1)) + 1))) else (none)) else (if (bt a0 (wrap64 (x6_2 + 1))) = 34 then (selvageref03_Unquote.j4 kj15 a0 x5_2 (wrap64 ((wrap64 (x6_2 + 1)) + 1)) (bt a0 (wrap64 (x6_2 + 1))) true) else (selvageref03_Unquote.j4 kj15 a0 x5_2 (wrap64 ((wrap64 (x6_2 + 1)) + 1)) (bt a0 (wrap64 (x6_2 + 1))) ((bt a0 (wrap64 (x6_2 + 1))) == 92)))) else (none)) else (none))) else (if x5_2.length < 140737488355328 then (selvageref03_Unquote.l0 kj15 a0 (x5_2 ++ [(bt a0 x6_2)]) (wrap64 (x6_2 + 1))) else (none))) = some (r1, r2, r3) := by rw [if_neg (show ¬ (false = true) by decide)] at H; exact H
                              clear H
                              have H := H1
                              clear H1
                              by_cases c19 : (bt a0 x6_2) = 92
                              · rw [if_pos c19] at H
                                have c19b0 : ((bt a0 x6_2) == 92) = true := beq_iff_eq.mpr c19
                                have c19b1 : ((bt a0 x6_2) != 92) = false := bne_eq_false_iff_eq.mpr c19
                                clear c19
                                by_cases c20 : (wrap64 (x6_2 + 1)) ≥ (a0.size : Int)
                                · rw [if_pos c20] at H
                                  have c20b0 : decide ((a0.size : Int) ≤ (wrap64 (x6_2 + 1))) = true := decide_eq_true c20
                                  clear c20
                                  simp only [Option.some.injEq, Prod.mk.injEq] at H
                                  obtain ⟨rfl, rfl, rfl⟩ := H
                                  go_wp2
                                  go_ret3
                                  exact ⟨by first | rfl | (simp [errW_none, errW_some] <;> rfl) | (simp [*, errW_none, errW_some] <;> rfl), by repeat (first | (with_reducible first | exact HB.out | apply below_alloc | apply pw_below_drewN | apply below_drew1) | exact HB.out)⟩
                                · rw [if_neg c20] at H
                                  have c20b0 : decide ((a0.size : Int) ≤ (wrap64 (x6_2 + 1))) = false := decide_eq_false c20
                                  clear c20
                                  obtain ⟨ji21, hji21⟩ : ∃ j_ : Int, (wrap64 (x6_2 + 1)) = j_ := ⟨_, rfl⟩
                                  replace H : (if 0 ≤ (ji21) then (if (ji21) < (a0.size : Int) then (if (bt a0 (ji21)) = 110 then (if x5_2.length < 140737488355328 then (selvageref03_Unquote.l0 kj15 a0 (x5_2 ++ [10]) (wrap64 ((ji21) + 1))) else (none)) else (if (bt a0 (ji21)) = 34 then (selvageref03_Unquote.j4 kj15 a0 x5_2 (wrap64 ((ji21) + 1)) (bt a0 (ji21)) true) else (selvageref03_Unquote.j4 kj15 a0 x5_2 (wrap64 ((ji21) + 1)) (bt a0 (ji21)) ((bt a0 (ji21)) == 92)))) else (none)) else (none)) = some (r1, r2, r3) := by first | (rw [hji21] at H; exact H) | (simp only [hji21] at H ⊢; exact H)
                                  (try rw [hji21] at c20b0)
                                  have hji21w : (IntKind.i64.wrap (x6_2 + 1)) = ji21 := (i64_w _).trans hji21
                                  by_cases c22 : 0 ≤ (ji21)
                                  · rw [if_pos c22] at H
                                    have c22b0 : decide (0 ≤ (ji21)) = true := decide_eq_true c22
                                    clear c22
                                    by_cases c23 : (ji21) < (a0.size : Int)
                                    · rw [if_pos c23] at H
                                      have c23b0 : decide ((ji21) < (a0.size : Int)) = true := decide_eq_true c23
                                      clear c23
                                      by_cases c25 : (bt a0 (ji21)) = 110
                                      · rw [if_pos c25] at H
                                        have c25b0 : ((bt a0 (ji21)) == 110) = true := beq_iff_eq.mpr c25
                                        have c25b1 : ((bt a0 (ji21)) != 110) = false := bne_eq_false_iff_eq.mpr c25
                                        clear c25
                                        by_cases c26 : x5_2.length < 140737488355328
                                        · rw [if_pos c26] at H
                                          have LMc26 := Aside0.mk c26
                                          clear c26
                                          obtain ⟨y162, hy162⟩ : ∃ y_ : List Int, y_ = (x5_2 ++ [10]) := ⟨_, rfl⟩
                                          replace H : (selvageref03_Unquote.l0 kj15 a0 y162 (wrap64 ((ji21) + 1))) = some (r1, r2, r3) := by first | (rw [hy162]; with_reducible exact H) | (have H2_ := (Option.bind_some _ _).symm.trans H; rw [hy162]; with_reducible exact H2_) | (have H2_ := (Option.bind_some _ _).symm.trans H; with_reducible exact H2_) | with_reducible exact H | (rw [hy162]; exact H) | exact H
                                          have Ny162 := Aside0.mk hy162
                                          clear hy162
                                          have H' := Aside0.mk H
                                          clear H
                                          have p24 : 0 ≤ ((ji21) : Int) := of_decide_eq_true (by first | (with_reducible assumption) | assumption)
                                          have q24 : (ji21) < (a0.size : Int) := of_decide_eq_true (by first | (with_reducible assumption) | assumption)
                                          have hx24 := bt_at a0 (ji21)
                                          replace p24 := eq_true p24
                                          replace q24 := eq_true q24
                                          go_wp2_with (first | ((with_reducible refine gate_builtin (b := .append) (xs := #[.tmp 60, .tmp 61]) rfl ?_); at_builtin; refine Kd.R_append (Kd.int .u8) (w0 := w) w.heap.size rfl (.tmp 60) (.tmp 61) 40 5 (.int .u8 0) 1 rfl Try.underlying40 info5 rfl (by decide) (by omega) u5 x5_2 10 [.int .u8 10] (fun _ => True) (fun _ => False) rfl rfl ?aP (fun _ hk => hk.elim) ?aF ?aO ?aB ?aS ?aL ?_; (case aP => exact rfl); (case aB => exact (by repeat (first | (with_reducible first | exact HB.out | apply below_alloc | apply pw_below_drewN | apply below_drew1) | exact HB.out))); (case aF => exact (fun _ _ => trivial)); (case aO => exact (by (with_reducible repeat (first | apply Kd.R_alloc | apply Kd.R_drewN | apply Kd.R_drew)); exact HO_5.out)); (case aS => exact (below_size (by repeat (first | (with_reducible first | exact HB.out | apply below_alloc | apply pw_below_drewN | apply below_drew1) | exact HB.out)))); (case aL => have := LMc26.out; omega); intro v163 w27 ho hb hg hat; rw [← Ny162.out] at ho; have n0_ := Aside0.mk (hb); have n1_ := Aside0.mk (ho); clear HB; clear HO_5; have HB := n0_; have HO164 := n1_; clear n0_ n1_; clear ho hb hg hat))
                                          go_roundg kj15
                                          case measure => have := HJ1.out; have := HK2.out; have := HJ6.out; have := HJ15.out; omega
                                          case rel => exact ⟨(y162), (wrap64 ((ji21) + 1)), (by first | rfl | (simp; done) | (simp only [← hji21] <;> (first | rfl | simp)) | (simp [*]; done)), H', ⟨by have := HJ1.out; have := HK2.out; have := HJ6.out; have := HJ15.out; omega⟩, ⟨by (with_reducible repeat (first | apply Kd.R_alloc | apply Kd.R_drewN | apply Kd.R_drew)); exact HO164.out⟩, ⟨by repeat (first | (with_reducible first | exact HB.out | apply below_alloc | apply pw_below_drewN | apply below_drew1) | exact HB.out)⟩⟩
                                        · rw [if_neg c26] at H
                                          exact absurd H (by simp)
                                      · rw [if_neg c25] at H
                                        have c25b0 : ((bt a0 (ji21)) == 110) = false := beq_eq_false_iff_ne.mpr c25
                                        have c25b1 : ((bt a0 (ji21)) != 110) = true := bne_iff_ne.mpr c25
                                        have HC28 := Aside0.mk H
                                        clear H
                                        have p24 : 0 ≤ ((ji21) : Int) := of_decide_eq_true (by first | (with_reducible assumption) | assumption)
                                        have q24 : (ji21) < (a0.size : Int) := of_decide_eq_true (by first | (with_reducible assumption) | assumption)
                                        have hx24 := bt_at a0 (ji21)
                                        replace p24 := eq_true p24
                                        replace q24 := eq_true q24
                                        go_upto_region 20 with (fail)
                                        go_cut [68] (fun v68 wc => ∃ (kq : Nat) (x68_27 : Bool), v68 = .bool x68_27 ∧ Aside0 (selvageref03_Unquote.j4 kq a0 x5_2 (wrap64 ((ji21) + 1)) (bt a0 (ji21)) x68_27 = some (r1, r2, r3)) ∧ Aside0 (kq ≤ kj15) ∧ Aside0 (Kd.R (Kd.int .u8) 5 wc w.heap.size (fun _ => True) u5 x5_2) ∧ Aside0 (Below w.heap.size w wc))
                                        case first =>
                                          have H := HC28.out
                                          clear HC28
                                          by_cases c29 : (bt a0 (ji21)) = 34
                                          · rw [if_pos c29] at H
                                            have c29b0 : ((bt a0 (ji21)) == 34) = true := beq_iff_eq.mpr c29
                                            have c29b1 : ((bt a0 (ji21)) != 34) = false := bne_eq_false_iff_eq.mpr c29
                                            clear c29
                                            (first | rw [c29b0] | (simp only [i64_w, i32_w]; rw [c29b0]) | skip)
                                            have H' := Aside0.mk H
                                            clear H
                                            go_wp2
                                            go_meet
                                            case rel => exact ⟨_, (true), (by first | rfl | (simp; done) | (simp [*]; done)), H', ⟨by have := HJ1.out; have := HK2.out; have := HJ6.out; have := HJ15.out; first | omega | exact Nat.le_refl _⟩, ⟨by (with_reducible repeat (first | apply Kd.R_alloc | apply Kd.R_drewN | apply Kd.R_drew)); exact HO_5.out⟩, ⟨by repeat (first | (with_reducible first | exact HB.out | apply below_alloc | apply pw_below_drewN | apply below_drew1) | exact HB.out)⟩⟩
                                          · rw [if_neg c29] at H
                                            have c29b0 : ((bt a0 (ji21)) == 34) = false := beq_eq_false_iff_ne.mpr c29
                                            have c29b1 : ((bt a0 (ji21)) != 34) = true := bne_iff_ne.mpr c29
                                            (first | rw [c29b0] | (simp only [i64_w, i32_w]; rw [c29b0]) | skip)
                                            have H' := Aside0.mk H
                                            clear H
                                            go_wp2
                                            go_meet
                                            case rel => exact ⟨_, (((bt a0 (ji21)) == 92)), (by first | rfl | (simp; done) | (simp only [← hji21] <;> (first | rfl | simp)) | (simp [*]; done)), H', ⟨by have := HJ1.out; have := HK2.out; have := HJ6.out; have := HJ15.out; first | omega | exact Nat.le_refl _⟩, ⟨by (with_reducible repeat (first | apply Kd.R_alloc | apply Kd.R_drewN | apply Kd.R_drew)); exact HO_5.out⟩, ⟨by repeat (first | (with_reducible first | exact HB.out | apply below_alloc | apply pw_below_drewN | apply below_drew1) | exact HB.out)⟩⟩
                                        case rest =>
                                          clear HC28
                                          try clear c1
                                          try clear p1
                                          try clear q1
                                          try clear hx1
                                          try clear c2
                                          try clear p2
                                          try clear q2
                                          try clear hx2
                                          try clear c3
                                          try clear c3b0
                                          try clear c3b1
                                          try clear c4
                                          try clear c4b0
                                          try clear c4b1
                                          try clear p5
                                          try clear q5
                                          try clear hx5
                                          try clear qi5
                                          try clear c6
                                          try clear p6
                                          try clear c8
                                          try clear c8b0
                                          try clear c9
                                          try clear c9b0
                                          try clear p10
                                          try clear q10
                                          try clear hx10
                                          try clear c11
                                          try clear c12
                                          try clear c12b0
                                          try clear c13
                                          try clear c13b0
                                          try clear p14
                                          try clear q14
                                          try clear hx14
                                          try clear c15
                                          try clear c15b0
                                          try clear c15b1
                                          try clear c17
                                          try clear c17b0
                                          try clear c18
                                          try clear c19
                                          try clear c19b0
                                          try clear c19b1
                                          try clear c20
                                          try clear c20b0
                                          try clear c22
                                          try clear c22b0
                                          try clear c23
                                          try clear c23b0
                                          try clear p24
                                          try clear q24
                                          try clear hx24
                                          try clear c25
                                          try clear c25b0
                                          try clear c25b1
                                          try clear c26
                                          try clear c29
                                          try clear c29b0
                                          try clear c29b1
                                          try clear p1
                                          try clear p10
                                          try clear p14
                                          try clear p2
                                          try clear p24
                                          try clear p5
                                          try clear q1
                                          try clear q10
                                          try clear q14
                                          try clear q24
                                          try clear q5
                                          obtain ⟨kq, x68_27, rfl, HA, HJ27, HO_5, HB⟩ := hcut
                                          cases kq with
                                          | zero => exact absurd HA.out (by simp [selvageref03_Unquote.j4])
                                          | succ kj27 =>
                                            have H := HA.out
                                            clear HA
                                            simp only [selvageref03_Unquote.j4] at H
                                            by_cases c30 : x68_27 = true
                                            · subst c30
                                              have H1 : (if x5_2.length < 140737488355328 then (selvageref03_Unquote.l0 kj27 a0 (x5_2 ++ [(bt a0 (ji21))]) (wrap64 ((ji21) + 1))) else (none)) = some (r1, r2, r3) := by rw [if_pos rfl] at H; exact H
                                              clear H
                                              have H := H1
                                              clear H1
                                              by_cases c31 : x5_2.length < 140737488355328
                                              · rw [if_pos c31] at H
                                                have LMc31 := Aside0.mk c31
                                                clear c31
                                                obtain ⟨y165, hy165⟩ : ∃ y_ : List Int, y_ = (x5_2 ++ [(bt a0 (ji21))]) := ⟨_, rfl⟩
                                                replace H : (selvageref03_Unquote.l0 kj27 a0 y165 (wrap64 ((ji21) + 1))) = some (r1, r2, r3) := by first | (rw [hy165]; with_reducible exact H) | (have H2_ := (Option.bind_some _ _).symm.trans H; rw [hy165]; with_reducible exact H2_) | (have H2_ := (Option.bind_some _ _).symm.trans H; with_reducible exact H2_) | with_reducible exact H | (rw [hy165]; exact H) | exact H
                                                have Ny165 := Aside0.mk hy165
                                                clear hy165
                                                have H' := Aside0.mk H
                                                clear H
                                                go_wp2_with (first | ((with_reducible refine gate_builtin (b := .append) (xs := #[.tmp 69, .tmp 71]) rfl ?_); at_builtin; refine Kd.R_append (Kd.int .u8) (w0 := w) w.heap.size rfl (.tmp 69) (.tmp 71) 40 5 (.int .u8 0) 1 rfl Try.underlying40 info5 rfl (by decide) (by omega) u5 x5_2 (bt a0 (ji21)) [.int .u8 (bt a0 (ji21))] (fun _ => True) (fun _ => False) rfl rfl ?aP (fun _ hk => hk.elim) ?aF ?aO ?aB ?aS ?aL ?_; (case aP => exact rfl); (case aB => exact (by repeat (first | (with_reducible first | exact HB.out | apply below_alloc | apply pw_below_drewN | apply below_drew1) | exact HB.out))); (case aF => exact (fun _ _ => trivial)); (case aO => exact (by (with_reducible repeat (first | apply Kd.R_alloc | apply Kd.R_drewN | apply Kd.R_drew)); exact HO_5.out)); (case aS => exact (below_size (by repeat (first | (with_reducible first | exact HB.out | apply below_alloc | apply pw_below_drewN | apply below_drew1) | exact HB.out)))); (case aL => have := LMc31.out; omega); intro v166 w32 ho hb hg hat; rw [← Ny165.out] at ho; have n0_ := Aside0.mk (hb); have n1_ := Aside0.mk (ho); clear HB; clear HO_5; have HB := n0_; have HO167 := n1_; clear n0_ n1_; clear ho hb hg hat))
                                                go_roundg kj27
                                                case measure => have := HJ1.out; have := HK2.out; have := HJ6.out; have := HJ15.out; have := HJ27.out; omega
                                                case rel => exact ⟨(y165), ((wrap64 ((ji21) + 1))), (by first | rfl | (simp; done) | (simp only [← hji21] <;> (first | rfl | simp)) | (simp [*]; done)), H', ⟨by have := HJ1.out; have := HK2.out; have := HJ6.out; have := HJ15.out; have := HJ27.out; omega⟩, ⟨by (with_reducible repeat (first | apply Kd.R_alloc | apply Kd.R_drewN | apply Kd.R_drew)); exact HO167.out⟩, ⟨by repeat (first | (with_reducible first | exact HB.out | apply below_alloc | apply pw_below_drewN | apply below_drew1) | exact HB.out)⟩⟩
                                              · rw [if_neg c31] at H
                                                exact absurd H (by simp)
                                            · replace c30 := Bool.eq_false_iff.mpr c30
                                              subst c30
                                              have H1 : (if (bt a0 (ji21)) = 120 then (selvageref03_Unquote.l1 kj27 a0 x5_2 (wrap64 ((ji21) + 1)) 0 0) else (some ((⟨#[]⟩ : ByteArray), 0, 10))) = some (r1, r2, r3) := by rw [if_neg (show ¬ (false = true) by decide)] at H; exact H
                                              clear H
                                              have H := H1
                                              clear H1
                                              by_cases c33 : (bt a0 (ji21)) = 120
                                              · rw [if_pos c33] at H
                                                have c33b0 : ((bt a0 (ji21)) == 120) = true := beq_iff_eq.mpr c33
                                                have c33b1 : ((bt a0 (ji21)) != 120) = false := bne_eq_false_iff_eq.mpr c33
                                                clear c33
                                                have H' := Aside0.mk H
                                                clear H
                                                go_wp2
                                                go_loopg [6, 9, 10] kj27 (fun kq v6 v9 v10 w' => ∃ (x6_6 : Int) (x9_6 : Int) (x10_6 : Int), v6 = .int .i64 x6_6 ∧ v9 = .int .i64 x9_6 ∧ v10 = .int .i64 x10_6 ∧ Aside0 (selvageref03_Unquote.l1 kq a0 x5_2 x6_6 x9_6 x10_6 = some (r1, r2, r3)) ∧ Aside0 (kq ≤ kj27) ∧ Aside0 (Kd.R (Kd.int .u8) 5 w' w.heap.size (fun _ => True) u5 x5_2) ∧ Aside0 (Below w.heap.size w w'))
                                                case atStart => exact ⟨((wrap64 ((ji21) + 1))), (0), (0), (by first | rfl | (simp; done) | (simp only [← hji21] <;> (first | rfl | simp)) | (simp [*]; done)), (by first | rfl | (simp; done) | (simp [*]; done)), (by first | rfl | (simp; done) | (simp [*]; done)), H', ⟨Nat.le_refl _⟩, ⟨by (with_reducible repeat (first | apply Kd.R_alloc | apply Kd.R_drewN | apply Kd.R_drew)); exact HO_5.out⟩, ⟨by repeat (first | (with_reducible first | exact HB.out | apply below_alloc | apply pw_below_drewN | apply below_drew1) | exact HB.out)⟩⟩
                                                case round =>
                                                  clear H'
                                                  try clear c1
                                                  try clear p1
                                                  try clear q1
                                                  try clear hx1
                                                  try clear c2
                                                  try clear p2
                                                  try clear q2
                                                  try clear hx2
                                                  try clear c3
                                                  try clear c3b0
                                                  try clear c3b1
                                                  try clear c4
                                                  try clear c4b0
                                                  try clear c4b1
                                                  try clear p5
                                                  try clear q5
                                                  try clear hx5
                                                  try clear qi5
                                                  try clear c6
                                                  try clear p6
                                                  try clear c8
                                                  try clear c8b0
                                                  try clear c9
                                                  try clear c9b0
                                                  try clear p10
                                                  try clear q10
                                                  try clear hx10
                                                  try clear c11
                                                  try clear c12
                                                  try clear c12b0
                                                  try clear c13
                                                  try clear c13b0
                                                  try clear p14
                                                  try clear q14
                                                  try clear hx14
                                                  try clear c15
                                                  try clear c15b0
                                                  try clear c15b1
                                                  try clear c17
                                                  try clear c17b0
                                                  try clear c18
                                                  try clear c19
                                                  try clear c19b0
                                                  try clear c19b1
                                                  try clear c20
                                                  try clear c20b0
                                                  try clear c22
                                                  try clear c22b0
                                                  try clear c23
                                                  try clear c23b0
                                                  try clear p24
                                                  try clear q24
                                                  try clear hx24
                                                  try clear c25
                                                  try clear c25b0
                                                  try clear c25b1
                                                  try clear c26
                                                  try clear c29
                                                  try clear c29b0
                                                  try clear c29b1
                                                  try clear c30
                                                  try clear c31
                                                  try clear c33
                                                  try clear c33b0
                                                  try clear c33b1
                                                  try clear p1
                                                  try clear p10
                                                  try clear p14
                                                  try clear p2
                                                  try clear p24
                                                  try clear p5
                                                  try clear p6
                                                  try clear q1
                                                  try clear q10
                                                  try clear q14
                                                  try clear q2
                                                  try clear q24
                                                  try clear q5
                                                  obtain ⟨x6_6, x9_6, x10_6, rfl, rfl, rfl, HA, HK6, HO_5, HB⟩ := hrel
                                                  cases gk with
                                                  | zero => exact absurd HA.out (by simp [selvageref03_Unquote.l1])
                                                  | succ k6 =>
                                                    have H := HA.out
                                                    clear HA
                                                    simp only [selvageref03_Unquote.l1] at H
                                                    by_cases c34 : x10_6 < 2
                                                    · rw [if_pos c34] at H
                                                      have c34b0 : decide (x10_6 < 2) = true := decide_eq_true c34
                                                      clear c34
                                                      by_cases c35 : x6_6 ≥ (a0.size : Int)
                                                      · rw [if_pos c35] at H
                                                        have c35b0 : decide ((a0.size : Int) ≤ x6_6) = true := decide_eq_true c35
                                                        clear c35
                                                        simp only [Option.some.injEq, Prod.mk.injEq] at H
                                                        obtain ⟨rfl, rfl, rfl⟩ := H
                                                        go_wp2
                                                        go_ret3
                                                        exact ⟨by first | rfl | (simp [errW_none, errW_some] <;> rfl) | (simp only [← hji21]; first | rfl | (simp [errW_none, errW_some] <;> rfl)) | (simp [*, errW_none, errW_some] <;> rfl), by repeat (first | (with_reducible first | exact HB.out | apply below_alloc | apply pw_below_drewN | apply below_drew1) | exact HB.out)⟩
                                                      · rw [if_neg c35] at H
                                                        have c35b0 : decide ((a0.size : Int) ≤ x6_6) = false := decide_eq_false c35
                                                        clear c35
                                                        by_cases c36 : 0 ≤ x6_6
                                                        · rw [if_pos c36] at H
                                                          have c36b0 : decide (0 ≤ x6_6) = true := decide_eq_true c36
                                                          clear c36
                                                          by_cases c37 : x6_6 < (a0.size : Int)
                                                          · rw [if_pos c37] at H
                                                            have c37b0 : decide (x6_6 < (a0.size : Int)) = true := decide_eq_true c37
                                                            clear c37
                                                            replace H := Option.bind_eq_some_iff.mp H
                                                            obtain ⟨t171, A390, H⟩ := H
                                                            replace H : (if t171 < 0 then (some ((⟨#[]⟩ : ByteArray), 0, 10)) else (selvageref03_Unquote.l1 k6 a0 x5_2 (wrap64 (x6_6 + 1)) (wrap64 ((wrap64 (16 * x9_6)) + t171)) (wrap64 (x10_6 + 1)))) = some (r1, r2, r3) := H
                                                            have A39 := Aside0.mk A390
                                                            clear A390
                                                            by_cases c40 : t171 < 0
                                                            · rw [if_pos c40] at H
                                                              have c40b0 : decide (t171 < 0) = true := decide_eq_true c40
                                                              clear c40
                                                              simp only [Option.some.injEq, Prod.mk.injEq] at H
                                                              obtain ⟨rfl, rfl, rfl⟩ := H
                                                              have p38 : 0 ≤ (x6_6 : Int) := of_decide_eq_true (by first | (with_reducible assumption) | assumption)
                                                              have q38 : x6_6 < (a0.size : Int) := of_decide_eq_true (by first | (with_reducible assumption) | assumption)
                                                              have hx38 := bt_at a0 x6_6
                                                              replace p38 := eq_true p38
                                                              replace q38 := eq_true q38
                                                              go_wp2_with (first | ((with_reducible refine gate_callee (f := 28) rfl ?_); refine goesL_ (some 86) rfl rfl Try.func28 (by kernel_rfl) rfl #[.int .u8 (bt a0 x6_6)] rfl (by (try simp only [List.map_toArray, List.map_cons, List.map_nil]); first | done | rfl | (simp only [List.length_drop, List.length_take]; rfl)) ?_; (with_reducible refine (selvageref03_digit.calls k6 (bt a0 x6_6) t171 _ A39.out).mono ?_); rintro e w' ⟨rfl, ⟨nd, rfl⟩⟩; refine ⟨_, rfl, ?_⟩))
                                                              go_ret3
                                                              exact ⟨by first | rfl | (simp [errW_none, errW_some] <;> rfl) | (simp only [← hji21]; first | rfl | (simp [errW_none, errW_some] <;> rfl)) | (simp [*, errW_none, errW_some] <;> rfl), by repeat (first | (with_reducible first | exact HB.out | apply below_alloc | apply pw_below_drewN | apply below_drew1) | exact HB.out)⟩
                                                            · rw [if_neg c40] at H
                                                              have c40b0 : decide (t171 < 0) = false := decide_eq_false c40
                                                              clear c40
                                                              have H' := Aside0.mk H
                                                              clear H
                                                              have p38 : 0 ≤ (x6_6 : Int) := of_decide_eq_true (by first | (with_reducible assumption) | assumption)
                                                              have q38 : x6_6 < (a0.size : Int) := of_decide_eq_true (by first | (with_reducible assumption) | assumption)
                                                              have hx38 := bt_at a0 x6_6
                                                              replace p38 := eq_true p38
                                                              replace q38 := eq_true q38
                                                              go_wp2_with (first | ((with_reducible refine gate_callee (f := 28) rfl ?_); refine goesL_ (some 86) rfl rfl Try.func28 (by kernel_rfl) rfl #[.int .u8 (bt a0 x6_6)] rfl (by (try simp only [List.map_toArray, List.map_cons, List.map_nil]); first | done | rfl | (simp only [List.length_drop, List.length_take]; rfl)) ?_; (with_reducible refine (selvageref03_digit.calls k6 (bt a0 x6_6) t171 _ A39.out).mono ?_); rintro e w' ⟨rfl, ⟨nd, rfl⟩⟩; refine ⟨_, rfl, ?_⟩))
                                                              go_roundg k6
                                                              case measure => have := HJ1.out; have := HK2.out; have := HJ6.out; have := HJ15.out; have := HJ27.out; have := HK6.out; omega
                                                              case rel => exact ⟨(wrap64 (x6_6 + 1)), (wrap64 ((wrap64 (16 * x9_6)) + t171)), (wrap64 (x10_6 + 1)), (by first | rfl | (simp; done) | (simp [*]; done)), (by first | rfl | (simp; done) | (simp [*]; done)), (by first | rfl | (simp; done) | (simp [*]; done)), H', ⟨by have := HJ1.out; have := HK2.out; have := HJ6.out; have := HJ15.out; have := HJ27.out; have := HK6.out; omega⟩, ⟨by (with_reducible repeat (first | apply Kd.R_alloc | apply Kd.R_drewN | apply Kd.R_drew)); exact HO_5.out⟩, ⟨by repeat (first | (with_reducible first | exact HB.out | apply below_alloc | apply pw_below_drewN | apply below_drew1) | exact HB.out)⟩⟩
                                                          · rw [if_neg c37] at H
                                                            exact absurd H (by simp)
                                                        · rw [if_neg c36] at H
                                                          exact absurd H (by simp)
                                                    · rw [if_neg c34] at H
                                                      have c34b0 : decide (x10_6 < 2) = false := decide_eq_false c34
                                                      clear c34
                                                      by_cases c41 : x5_2.length < 140737488355328
                                                      · rw [if_pos c41] at H
                                                        have LMc41 := Aside0.mk c41
                                                        clear c41
                                                        obtain ⟨y168, hy168⟩ : ∃ y_ : List Int, y_ = (x5_2 ++ [(x9_6) % 256]) := ⟨_, rfl⟩
                                                        replace H : (selvageref03_Unquote.l0 k6 a0 y168 x6_6) = some (r1, r2, r3) := by first | (rw [hy168]; with_reducible exact H) | (have H2_ := (Option.bind_some _ _).symm.trans H; rw [hy168]; with_reducible exact H2_) | (have H2_ := (Option.bind_some _ _).symm.trans H; with_reducible exact H2_) | with_reducible exact H | (rw [hy168]; exact H) | exact H
                                                        have Ny168 := Aside0.mk hy168
                                                        clear hy168
                                                        have H' := Aside0.mk H
                                                        clear H
                                                        go_wp2_with (first | ((with_reducible refine gate_builtin (b := .append) (xs := #[.tmp 95, .tmp 98]) rfl ?_); at_builtin; refine Kd.R_append (Kd.int .u8) (w0 := w) w.heap.size rfl (.tmp 95) (.tmp 98) 40 5 (.int .u8 0) 1 rfl Try.underlying40 info5 rfl (by decide) (by omega) u5 x5_2 ((x9_6) % 256) [.int .u8 ((x9_6) % 256)] (fun _ => True) (fun _ => False) rfl rfl ?aP (fun _ hk => hk.elim) ?aF ?aO ?aB ?aS ?aL ?_; (case aP => exact rfl); (case aB => exact (by repeat (first | (with_reducible first | exact HB.out | apply below_alloc | apply pw_below_drewN | apply below_drew1) | exact HB.out))); (case aF => exact (fun _ _ => trivial)); (case aO => exact (by (with_reducible repeat (first | apply Kd.R_alloc | apply Kd.R_drewN | apply Kd.R_drew)); exact HO_5.out)); (case aS => exact (below_size (by repeat (first | (with_reducible first | exact HB.out | apply below_alloc | apply pw_below_drewN | apply below_drew1) | exact HB.out)))); (case aL => have := LMc41.out; omega); intro v169 w42 ho hb hg hat; rw [← Ny168.out] at ho; have n0_ := Aside0.mk (hb); have n1_ := Aside0.mk (ho); clear HB; clear HO_5; have HB := n0_; have HO170 := n1_; clear n0_ n1_; clear ho hb hg hat))
                                                        go_roundg k6
                                                        case measure => have := HJ1.out; have := HK2.out; have := HJ6.out; have := HJ15.out; have := HJ27.out; have := HK6.out; omega
                                                        case rel => exact ⟨(y168), (x6_6), (by first | rfl | (simp; done) | (simp [*]; done)), H', ⟨by have := HJ1.out; have := HK2.out; have := HJ6.out; have := HJ15.out; have := HJ27.out; have := HK6.out; omega⟩, ⟨by (with_reducible repeat (first | apply Kd.R_alloc | apply Kd.R_drewN | apply Kd.R_drew)); exact HO170.out⟩, ⟨by repeat (first | (with_reducible first | exact HB.out | apply below_alloc | apply pw_below_drewN | apply below_drew1) | exact HB.out)⟩⟩
                                                      · rw [if_neg c41] at H
                                                        exact absurd H (by simp)
                                              · rw [if_neg c33] at H
                                                have c33b0 : ((bt a0 (ji21)) == 120) = false := beq_eq_false_iff_ne.mpr c33
                                                have c33b1 : ((bt a0 (ji21)) != 120) = true := bne_iff_ne.mpr c33
                                                simp only [Option.some.injEq, Prod.mk.injEq] at H
                                                obtain ⟨rfl, rfl, rfl⟩ := H
                                                go_wp2
                                                go_ret3
                                                exact ⟨by first | rfl | (simp [errW_none, errW_some] <;> rfl) | (simp only [← hji21]; first | rfl | (simp [errW_none, errW_some] <;> rfl)) | (simp [*, errW_none, errW_some] <;> rfl), by repeat (first | (with_reducible first | exact HB.out | apply below_alloc | apply pw_below_drewN | apply below_drew1) | exact HB.out)⟩
                                    · rw [if_neg c23] at H
                                      exact absurd H (by simp)
                                  · rw [if_neg c22] at H
                                    exact absurd H (by simp)
                              · rw [if_neg c19] at H
                                have c19b0 : ((bt a0 x6_2) == 92) = false := beq_eq_false_iff_ne.mpr c19
                                have c19b1 : ((bt a0 x6_2) != 92) = true := bne_iff_ne.mpr c19
                                by_cases c43 : x5_2.length < 140737488355328
                                · rw [if_pos c43] at H
                                  have LMc43 := Aside0.mk c43
                                  clear c43
                                  obtain ⟨y159, hy159⟩ : ∃ y_ : List Int, y_ = (x5_2 ++ [(bt a0 x6_2)]) := ⟨_, rfl⟩
                                  replace H : (selvageref03_Unquote.l0 kj15 a0 y159 (wrap64 (x6_2 + 1))) = some (r1, r2, r3) := by first | (rw [hy159]; with_reducible exact H) | (have H2_ := (Option.bind_some _ _).symm.trans H; rw [hy159]; with_reducible exact H2_) | (have H2_ := (Option.bind_some _ _).symm.trans H; with_reducible exact H2_) | with_reducible exact H | (rw [hy159]; exact H) | exact H
                                  have Ny159 := Aside0.mk hy159
                                  clear hy159
                                  have H' := Aside0.mk H
                                  clear H
                                  go_wp2_with (first | ((with_reducible refine gate_builtin (b := .append) (xs := #[.tmp 45, .tmp 47]) rfl ?_); at_builtin; refine Kd.R_append (Kd.int .u8) (w0 := w) w.heap.size rfl (.tmp 45) (.tmp 47) 40 5 (.int .u8 0) 1 rfl Try.underlying40 info5 rfl (by decide) (by omega) u5 x5_2 (bt a0 x6_2) [.int .u8 (bt a0 x6_2)] (fun _ => True) (fun _ => False) rfl rfl ?aP (fun _ hk => hk.elim) ?aF ?aO ?aB ?aS ?aL ?_; (case aP => exact rfl); (case aB => exact (by repeat (first | (with_reducible first | exact HB.out | apply below_alloc | apply pw_below_drewN | apply below_drew1) | exact HB.out))); (case aF => exact (fun _ _ => trivial)); (case aO => exact (by (with_reducible repeat (first | apply Kd.R_alloc | apply Kd.R_drewN | apply Kd.R_drew)); exact HO_5.out)); (case aS => exact (below_size (by repeat (first | (with_reducible first | exact HB.out | apply below_alloc | apply pw_below_drewN | apply below_drew1) | exact HB.out)))); (case aL => have := LMc43.out; omega); intro v160 w44 ho hb hg hat; rw [← Ny159.out] at ho; have n0_ := Aside0.mk (hb); have n1_ := Aside0.mk (ho); clear HB; clear HO_5; have HB := n0_; have HO161 := n1_; clear n0_ n1_; clear ho hb hg hat))
                                  go_roundg kj15
                                  case measure => have := HJ1.out; have := HK2.out; have := HJ6.out; have := HJ15.out; omega
                                  case rel => exact ⟨(y159), (wrap64 (x6_2 + 1)), (by first | rfl | (simp; done) | (simp [*]; done)), H', ⟨by have := HJ1.out; have := HK2.out; have := HJ6.out; have := HJ15.out; omega⟩, ⟨by (with_reducible repeat (first | apply Kd.R_alloc | apply Kd.R_drewN | apply Kd.R_drew)); exact HO161.out⟩, ⟨by repeat (first | (with_reducible first | exact HB.out | apply below_alloc | apply pw_below_drewN | apply below_drew1) | exact HB.out)⟩⟩
                                · rw [if_neg c43] at H
                                  exact absurd H (by simp)
                    · rw [if_neg c13] at H
                      exact absurd H (by simp)
                  · rw [if_neg c12] at H
                    exact absurd H (by simp)
                · replace c11 := Bool.eq_false_iff.mpr c11
                  subst c11
                  have H1 : (if x6_2 ≥ (a0.size : Int) then (some ((⟨#[]⟩ : ByteArray), 0, 11)) else (if (x5_2.length : Int) > 60 then (some ((⟨#[]⟩ : ByteArray), 0, 12)) else (some (strOfNums x5_2, wrap64 (x6_2 + 1), 0)))) = some (r1, r2, r3) := by rw [if_neg (show ¬ (false = true) by decide)] at H; exact H
                  clear H
                  have H := H1
                  clear H1
                  by_cases c45 : x6_2 ≥ (a0.size : Int)
                  · rw [if_pos c45] at H
                    have c45b0 : decide ((a0.size : Int) ≤ x6_2) = true := decide_eq_true c45
                    clear c45
                    simp only [Option.some.injEq, Prod.mk.injEq] at H
                    obtain ⟨rfl, rfl, rfl⟩ := H
                    go_wp2
                    go_ret3
                    exact ⟨by first | rfl | (simp [errW_none, errW_some] <;> rfl) | (simp [*, errW_none, errW_some] <;> rfl), by repeat (first | (with_reducible first | exact HB.out | apply below_alloc | apply pw_below_drewN | apply below_drew1) | exact HB.out)⟩
                  · rw [if_neg c45] at H
                    have c45b0 : decide ((a0.size : Int) ≤ x6_2) = false := decide_eq_false c45
                    clear c45
                    by_cases c46 : (x5_2.length : Int) > 60
                    · rw [if_pos c46] at H
                      have c46b0 : decide (60 < (x5_2.length : Int)) = true := decide_eq_true c46
                      have c46b1 : decide (60 < x5_2.length) = true := decide_eq_true (by omega)
                      clear c46
                      simp only [Option.some.injEq, Prod.mk.injEq] at H
                      obtain ⟨rfl, rfl, rfl⟩ := H
                      obtain ⟨Ao47, co47, eo47⟩ := Kd.R_slice HO_5.out
                      subst eo47
                      go_wp2
                      go_ret3
                      exact ⟨by first | rfl | (simp [errW_none, errW_some] <;> rfl) | (simp [*, errW_none, errW_some] <;> rfl), by repeat (first | (with_reducible first | exact HB.out | apply below_alloc | apply pw_below_drewN | apply below_drew1) | exact HB.out)⟩
                    · rw [if_neg c46] at H
                      have c46b0 : decide (60 < (x5_2.length : Int)) = false := decide_eq_false c46
                      have c46b1 : decide (60 < x5_2.length) = false := decide_eq_false (by omega)
                      clear c46
                      simp only [Option.some.injEq, Prod.mk.injEq] at H
                      obtain ⟨rfl, rfl, rfl⟩ := H
                      obtain ⟨Ao48, co48, eo48⟩ := Kd.R_slice HO_5.out
                      subst eo48
                      have hcv49 := own_string (P := Try.prog) Try.underlying40 Try.underlying5 Try.underlying9 (Kd.own_of_R HO_5.out)
                      go_wp2
                      go_ret3
                      exact ⟨by first | rfl | (simp [errW_none, errW_some] <;> rfl) | (simp [*, errW_none, errW_some] <;> rfl), by repeat (first | (with_reducible first | exact HB.out | apply below_alloc | apply pw_below_drewN | apply below_drew1) | exact HB.out)⟩

end Go.Proofs.Ytobkalblncefbaa.Q
