-- PRINTED by print.py (a twelfth state) out of the translation. Not trusted: Lean checks it.
import Derived.Test.YtadbiogchgglpaaQx0
import Derived.Test.YtadbiogchgglpaaQx3
import Derived.Test.YtadbiogchgglpaaQx7
import Derived.Test.YtadbiogchgglpaaQx8
namespace Go.Proofs.Ytadbiogchgglpaa.Q
open Go.RowKit Go.Proofs.YtadbiogchgglpaaW.PrintWords Go.Proofs.YtadbiogchgglpaaW.PrintLast Go.Proofs.YtadbiogchgglpaaW.PrintMore
attribute [local go_sem] max2_int min2_int max_two min_two max_three min_three max_four min_four   -- for this text's walks alone
set_option linter.unusedVariables false
set_option linter.unusedSimpArgs false

/-! ### cSS: function 30 -/
def cSS.f (k : Nat) (l0 : List ByteArray)  : Option (Bool) := (iSS.f k l0).bind fun t153 => (some (decide (t153 ≥ 0)))
theorem cSS.mono : ∀ a0 k, LeO (cSS.f k a0) (cSS.f (k + 1) a0) := by
 intro a0 k
 unfold cSS.f
 repeat' first
   | (with_reducible exact iSS.mono _ _)
   | (with_reducible exact LeO.refl _)
   | (with_reducible exact LeO.none _)
   | (with_reducible refine LeO.ite ?_ ?_)
   | (with_reducible refine LeO.bind ?_ (fun _ => ?_))
   | exact iSS.mono _ _
   | exact LeO.none _
   | refine LeO.ite ?_ ?_
   | refine LeO.bind ?_ (fun _ => ?_)
set_option maxHeartbeats 8000000 in
set_option maxRecDepth 100000 in
theorem cSS.calls (k : Nat) (A0 : Option Addr) (c0 : Nat) (l0 : List ByteArray)  (r : Bool) (w : World) (hr0 : Kd.C Kd.string w A0 l0.length l0) (hc0 : l0.length ≤ c0) (h : cSS.f k l0 = some r) :
  Calls Try.prog 30 #[.slice A0 l0.length c0, .func (.func 31) #[] #[]] w fun e w' => e = .returned (.bool r) ∧ Below w.heap.size w w' := by
 have HR0 := Aside0.mk hr0
 have HC0 := Aside0.mk hc0
 clear hr0 hc0
 have HB := Aside0.mk (Below.refl w.heap.size w)
 have H : ((iSS.f k l0).bind fun t153 => (some (decide (t153 ≥ 0)))) = some r := h
 clear h
 replace H := Option.bind_eq_some_iff.mp H
 obtain ⟨t153, A30, H⟩ := H
 replace H : (some (decide (t153 ≥ 0))) = some r := H
 have A3 := Aside0.mk A30
 clear A30
 obtain rfl := Option.some.inj H
 go_enter Try.func30, Try.ntmps30
 go_wp2_with (first | ((with_reducible refine gate_callee (f := 40) rfl ?_); refine goesL_ (some 7) rfl rfl Try.func40 (by kernel_rfl) rfl #[.slice A0 l0.length c0, .func (.func 31) #[] #[]] rfl (by (try simp only [List.map_toArray, List.map_cons, List.map_nil]); first | done | rfl | (simp only [List.length_drop, List.length_take]; rfl)) ?_; (with_reducible refine (iSS.calls k _ _ l0  t153 _ ?side1 ?side2 A3.out).mono ?_); (case side1 => repeat (first | exact HR0.out | (with_reducible refine Kd.C_alloc ?_ _) | (with_reducible refine Kd.C_drewN ?_ _) | (with_reducible refine Kd.C_drew ?_))); (case side2 => exact HC0.out); rintro e w4 ⟨rfl, hb⟩; refine ⟨_, rfl, ?_⟩; have n0_ := Aside0.mk (bT (by repeat (first | (with_reducible first | exact HB.out | apply bA | apply bN | apply bD) | exact HB.out)) hb); clear HB; have HB := n0_; clear n0_; (try clear hb); (try clear hb2); (try clear hk); (try clear hi)))
 go_ret
 exact ⟨by first | rfl | (simp [wN, wS] <;> rfl) | (simp [*, wN, wS] <;> rfl), by repeat (first | (with_reducible first | exact HB.out | apply bA | apply bN | apply bD) | exact HB.out)⟩

/-! ### code_May: function 13 -/
def code_May.f (k : Nat) (l0_0 : List (S40)) (l0_1 : List Int) (l0_2 : List ByteArray) (a0_3 : Int) : Option (Bool) := (code_in.f (l0_0.length : Int) 1 120).bind fun t155 => (if t155 = true then (if (l0_1.length : Int) ≤ 120 then (if (l0_2.length : Int) ≤ 120 then ((code_in.f a0_3 0 60).bind fun t156 => (if t156 = true then ((api_Body_26.f k l0_0).bind fun t157 => (if t157 = true then (some false) else ((cII.f k l0_1).bind fun t158 => (if t158 = true then (some false) else ((cSS.f k l0_2).bind fun t159 => (some (!t159))))))) else (some false))) else (some false)) else (some false)) else (some false))
theorem code_May.mono : ∀ a0 a1 a2 a3 k, LeO (code_May.f k a0 a1 a2 a3) (code_May.f (k + 1) a0 a1 a2 a3) := by
 intro a0 a1 a2 a3 k
 unfold code_May.f
 repeat' first
   | (with_reducible exact api_Body_26.mono _ _)
   | (with_reducible exact cII.mono _ _)
   | (with_reducible exact cSS.mono _ _)
   | (with_reducible exact LeO.refl _)
   | (with_reducible exact LeO.none _)
   | (with_reducible refine LeO.ite ?_ ?_)
   | (with_reducible refine LeO.bind ?_ (fun _ => ?_))
   | exact api_Body_26.mono _ _
   | exact cII.mono _ _
   | exact cSS.mono _ _
   | exact LeO.none _
   | refine LeO.ite ?_ ?_
   | refine LeO.bind ?_ (fun _ => ?_)
set_option maxHeartbeats 8000000 in
set_option maxRecDepth 100000 in
theorem code_May.calls (k : Nat) (A0_0 : Option Addr) (c0_0 : Nat) (l0_0 : List (S40)) (A0_1 : Option Addr) (c0_1 : Nat) (l0_1 : List Int) (A0_2 : Option Addr) (c0_2 : Nat) (l0_2 : List ByteArray) (a0_3 : Int) (r : Bool) (w : World) (hr0_0 : Kd.C k40 w A0_0 l0_0.length l0_0) (hc0_0 : l0_0.length ≤ c0_0) (hr0_1 : Kd.C (Kd.int .i64) w A0_1 l0_1.length l0_1) (hc0_1 : l0_1.length ≤ c0_1) (hr0_2 : Kd.C Kd.string w A0_2 l0_2.length l0_2) (hc0_2 : l0_2.length ≤ c0_2) (h : code_May.f k l0_0 l0_1 l0_2 a0_3 = some r) :
  Calls Try.prog 13 #[.agg #[.slice A0_0 l0_0.length c0_0, .slice A0_1 l0_1.length c0_1, .slice A0_2 l0_2.length c0_2, .int .i64 a0_3]] w fun e w' => e = .returned (.bool r) ∧ Below w.heap.size w w' := by
 have hu26 := Try.underlying26
 have HR0_0 := Aside0.mk hr0_0
 have HC0_0 := Aside0.mk hc0_0
 clear hr0_0 hc0_0
 have HR0_1 := Aside0.mk hr0_1
 have HC0_1 := Aside0.mk hc0_1
 clear hr0_1 hc0_1
 have HR0_2 := Aside0.mk hr0_2
 have HC0_2 := Aside0.mk hc0_2
 clear hr0_2 hc0_2
 have HB := Aside0.mk (Below.refl w.heap.size w)
 have H : ((code_in.f (l0_0.length : Int) 1 120).bind fun t155 => (if t155 = true then (if (l0_1.length : Int) ≤ 120 then (if (l0_2.length : Int) ≤ 120 then ((code_in.f a0_3 0 60).bind fun t156 => (if t156 = true then ((api_Body_26.f k l0_0).bind fun t157 => (if t157 = true then (some false) else ((cII.f k l0_1).bind fun t158 => (if t158 = true then (some false) else ((cSS.f k l0_2).bind fun t159 => (some (!t159))))))) else (some false))) else (some false)) else (some false)) else (some false))) = some r := h
 clear h
 replace H := Option.bind_eq_some_iff.mp H
 obtain ⟨t155, A20, H⟩ := H
 replace H : (if t155 = true then (if (l0_1.length : Int) ≤ 120 then (if (l0_2.length : Int) ≤ 120 then ((code_in.f a0_3 0 60).bind fun t156 => (if t156 = true then ((api_Body_26.f k l0_0).bind fun t157 => (if t157 = true then (some false) else ((cII.f k l0_1).bind fun t158 => (if t158 = true then (some false) else ((cSS.f k l0_2).bind fun t159 => (some (!t159))))))) else (some false))) else (some false)) else (some false)) else (some false)) = some r := H
 have A2 := Aside0.mk A20
 clear A20
 by_cases c3 : t155 = true
 ·subst c3
  have H1 : (if (l0_1.length : Int) ≤ 120 then (if (l0_2.length : Int) ≤ 120 then ((code_in.f a0_3 0 60).bind fun t156 => (if t156 = true then ((api_Body_26.f k l0_0).bind fun t157 => (if t157 = true then (some false) else ((cII.f k l0_1).bind fun t158 => (if t158 = true then (some false) else ((cSS.f k l0_2).bind fun t159 => (some (!t159))))))) else (some false))) else (some false)) else (some false)) = some r := by rw [if_pos rfl] at H; exact H
  clear H
  have H := H1
  clear H1
  by_cases c4 : (l0_1.length : Int) ≤ 120
  ·rw [if_pos c4] at H
   have c4b0 : decide ((l0_1.length : Int) ≤ 120) = true := decide_eq_true c4
   have c4b1 : decide (l0_1.length ≤ 120) = true := decide_eq_true (by omega)
   clear c4
   by_cases c5 : (l0_2.length : Int) ≤ 120
   ·rw [if_pos c5] at H
    have c5b0 : decide ((l0_2.length : Int) ≤ 120) = true := decide_eq_true c5
    have c5b1 : decide (l0_2.length ≤ 120) = true := decide_eq_true (by omega)
    clear c5
    replace H := Option.bind_eq_some_iff.mp H
    obtain ⟨t156, A60, H⟩ := H
    replace H : (if t156 = true then ((api_Body_26.f k l0_0).bind fun t157 => (if t157 = true then (some false) else ((cII.f k l0_1).bind fun t158 => (if t158 = true then (some false) else ((cSS.f k l0_2).bind fun t159 => (some (!t159))))))) else (some false)) = some r := H
    have A6 := Aside0.mk A60
    clear A60
    by_cases c7 : t156 = true
    ·subst c7
     have H1 : ((api_Body_26.f k l0_0).bind fun t157 => (if t157 = true then (some false) else ((cII.f k l0_1).bind fun t158 => (if t158 = true then (some false) else ((cSS.f k l0_2).bind fun t159 => (some (!t159))))))) = some r := by rw [if_pos rfl] at H; exact H
     clear H
     have H := H1
     clear H1
     replace H := Option.bind_eq_some_iff.mp H
     obtain ⟨t157, A80, H⟩ := H
     replace H : (if t157 = true then (some false) else ((cII.f k l0_1).bind fun t158 => (if t158 = true then (some false) else ((cSS.f k l0_2).bind fun t159 => (some (!t159)))))) = some r := H
     have A8 := Aside0.mk A80
     clear A80
     by_cases c9 : t157 = true
     ·subst c9
      have H1 : (some false) = some r := by rw [if_pos rfl] at H; exact H
      clear H
      have H := H1
      clear H1
      obtain rfl := Option.some.inj H
      go_enter Try.func13, Try.ntmps13
      go_wp2_with (first | ((with_reducible refine gate_dst (N := 1) rfl ?_); (try (refine gate_guard (by rfl) ?_; dsimp only)); refine box_event ?hg (N := 1) ?hd (cs := #[.slice A0_0 l0_0.length c0_0, .slice A0_1 l0_1.length c0_1, .slice A0_2 l0_2.length c0_2, .int .i64 a0_3]) (t := 26) ?hr ?_; (case hd => rfl); (case hg => rfl); (case hr => first | (go_simp; done) | (go_simp; rfl)); intro gb154 hg w10 hbox hb; have n0_ := Aside0.mk (bT (by repeat (first | (with_reducible first | exact HB.out | apply bA | apply bN | apply bD) | exact HB.out)) hb); have n1_ := Aside0.mk (hbox); have n2_ := Aside0.mk ((by rw [hg]; exact (bZ (by repeat (first | (with_reducible first | exact HB.out | apply bA | apply bN | apply bD) | exact HB.out))) : w.heap.size ≤ gb154)); have n3_ := Aside0.mk ((by rw [hg]; exact (bZ (by repeat (first | (with_reducible first | exact HB.out | apply bA | apply bN | apply bD) | exact HB.out))) : w.heap.size ≤ gb154)); clear HB; have HB := n0_; have BK154 := n1_; have GW154 := n2_; have GE154 := n3_; clear n0_ n1_ n2_ n3_; clear hb hbox hg; have hcz11_0 : w10.cell? ⟨gb154, 0, none⟩ = some (.slice A0_0 l0_0.length c0_0) := (kC BK154.out 0).trans rfl; have hcz11_1 : w10.cell? ⟨gb154, 1, none⟩ = some (.slice A0_1 l0_1.length c0_1) := (kC BK154.out 1).trans rfl; have hcz11_2 : w10.cell? ⟨gb154, 2, none⟩ = some (.slice A0_2 l0_2.length c0_2) := (kC BK154.out 2).trans rfl; have hcz11_3 : w10.cell? ⟨gb154, 3, none⟩ = some (.int .i64 a0_3) := (kC BK154.out 3).trans rfl; have hfz11_0 := kF BK154.out 0; have hfz11_1 := kF BK154.out 1; have hfz11_2 := kF BK154.out 2; have hfz11_3 := kF BK154.out 3) | ((with_reducible refine gate_callee (f := 25) rfl ?_); refine goesL_ (some 7) rfl rfl Try.func25 (by kernel_rfl) rfl #[.int .i64 (l0_0.length : Int), .int .i64 1, .int .i64 120] rfl (by (try simp only [List.map_toArray, List.map_cons, List.map_nil]); first | done | rfl | (simp only [List.length_drop, List.length_take]; rfl)) ?_; (with_reducible refine (code_in.calls (l0_0.length : Int) 1 120 true _ A2.out).mono ?_); rintro e w' ⟨rfl, ⟨nd, rfl⟩⟩; refine ⟨_, rfl, ?_⟩) | (go_at_call 25; (with_reducible refine (code_in.calls a0_3 0 60 true _ A6.out).mono ?_); rintro e w' ⟨rfl, ⟨nd, rfl⟩⟩) | (go_at_call 26; (with_reducible refine (api_Body_26.calls k _ _ l0_0  true _ ?side1 ?side2 A8.out).mono ?_); (case side1 => repeat (first | exact (Kd.C_below HR0_0.out (by repeat (first | (with_reducible first | exact HB.out | apply bA | apply bN | apply bD | refine bS ?_ GE154.out) | exact HB.out))) | (with_reducible refine Kd.C_alloc ?_ _) | (with_reducible refine Kd.C_drewN ?_ _) | (with_reducible refine Kd.C_drew ?_))); (case side2 => exact HC0_0.out); rintro e w12 ⟨rfl, hb⟩; have n0_ := Aside0.mk (kB (g := gb154) (o := .cells #[.slice A0_0 l0_0.length c0_0, .slice A0_1 l0_1.length c0_1, .slice A0_2 l0_2.length c0_2, .int .i64 a0_3] 26 (0, 0)) (by (with_reducible repeat (first | refine kN ?_ _ | refine kD ?_ | refine kA ?_ _)); exact BK154.out) hb); have n1_ := Aside0.mk (bT (by repeat (first | (with_reducible first | exact HB.out | apply bA | apply bN | apply bD | refine bS ?_ GE154.out) | exact HB.out)) hb); clear BK154; clear HB; have BK154 := n0_; have HB := n1_; clear n0_ n1_; (try clear hb); (try clear hb2); (try clear hk); (try clear hi)))
      go_ret
      exact ⟨by first | rfl | (simp [wN, wS] <;> rfl) | (simp [*, wN, wS] <;> rfl), by repeat (first | (with_reducible first | exact HB.out | apply bA | apply bN | apply bD | refine bS ?_ GE154.out) | exact HB.out)⟩
     replace c9 := Bool.eq_false_iff.mpr c9
     subst c9
     have H1 : ((cII.f k l0_1).bind fun t158 => (if t158 = true then (some false) else ((cSS.f k l0_2).bind fun t159 => (some (!t159))))) = some r := by rw [if_neg (show ¬ (false = true) by decide)] at H; exact H
     clear H
     have H := H1
     clear H1
     replace H := Option.bind_eq_some_iff.mp H
     obtain ⟨t158, A130, H⟩ := H
     replace H : (if t158 = true then (some false) else ((cSS.f k l0_2).bind fun t159 => (some (!t159)))) = some r := H
     have A13 := Aside0.mk A130
     clear A130
     by_cases c14 : t158 = true
     ·subst c14
      have H1 : (some false) = some r := by rw [if_pos rfl] at H; exact H
      clear H
      have H := H1
      clear H1
      obtain rfl := Option.some.inj H
      go_enter Try.func13, Try.ntmps13
      go_wp2_with (first | ((with_reducible refine gate_dst (N := 1) rfl ?_); (try (refine gate_guard (by rfl) ?_; dsimp only)); refine box_event ?hg (N := 1) ?hd (cs := #[.slice A0_0 l0_0.length c0_0, .slice A0_1 l0_1.length c0_1, .slice A0_2 l0_2.length c0_2, .int .i64 a0_3]) (t := 26) ?hr ?_; (case hd => rfl); (case hg => rfl); (case hr => first | (go_simp; done) | (go_simp; rfl)); intro gb154 hg w15 hbox hb; have n0_ := Aside0.mk (bT (by repeat (first | (with_reducible first | exact HB.out | apply bA | apply bN | apply bD) | exact HB.out)) hb); have n1_ := Aside0.mk (hbox); have n2_ := Aside0.mk ((by rw [hg]; exact (bZ (by repeat (first | (with_reducible first | exact HB.out | apply bA | apply bN | apply bD) | exact HB.out))) : w.heap.size ≤ gb154)); have n3_ := Aside0.mk ((by rw [hg]; exact (bZ (by repeat (first | (with_reducible first | exact HB.out | apply bA | apply bN | apply bD) | exact HB.out))) : w.heap.size ≤ gb154)); clear HB; have HB := n0_; have BK154 := n1_; have GW154 := n2_; have GE154 := n3_; clear n0_ n1_ n2_ n3_; clear hb hbox hg; have hcz16_0 : w15.cell? ⟨gb154, 0, none⟩ = some (.slice A0_0 l0_0.length c0_0) := (kC BK154.out 0).trans rfl; have hcz16_1 : w15.cell? ⟨gb154, 1, none⟩ = some (.slice A0_1 l0_1.length c0_1) := (kC BK154.out 1).trans rfl; have hcz16_2 : w15.cell? ⟨gb154, 2, none⟩ = some (.slice A0_2 l0_2.length c0_2) := (kC BK154.out 2).trans rfl; have hcz16_3 : w15.cell? ⟨gb154, 3, none⟩ = some (.int .i64 a0_3) := (kC BK154.out 3).trans rfl; have hfz16_0 := kF BK154.out 0; have hfz16_1 := kF BK154.out 1; have hfz16_2 := kF BK154.out 2; have hfz16_3 := kF BK154.out 3) | ((with_reducible refine gate_callee (f := 25) rfl ?_); refine goesL_ (some 7) rfl rfl Try.func25 (by kernel_rfl) rfl #[.int .i64 (l0_0.length : Int), .int .i64 1, .int .i64 120] rfl (by (try simp only [List.map_toArray, List.map_cons, List.map_nil]); first | done | rfl | (simp only [List.length_drop, List.length_take]; rfl)) ?_; (with_reducible refine (code_in.calls (l0_0.length : Int) 1 120 true _ A2.out).mono ?_); rintro e w' ⟨rfl, ⟨nd, rfl⟩⟩; refine ⟨_, rfl, ?_⟩) | (go_at_call 25; (with_reducible refine (code_in.calls a0_3 0 60 true _ A6.out).mono ?_); rintro e w' ⟨rfl, ⟨nd, rfl⟩⟩) | (go_at_call 26; (with_reducible refine (api_Body_26.calls k _ _ l0_0  false _ ?side1 ?side2 A8.out).mono ?_); (case side1 => repeat (first | exact (Kd.C_below HR0_0.out (by repeat (first | (with_reducible first | exact HB.out | apply bA | apply bN | apply bD | refine bS ?_ GE154.out) | exact HB.out))) | (with_reducible refine Kd.C_alloc ?_ _) | (with_reducible refine Kd.C_drewN ?_ _) | (with_reducible refine Kd.C_drew ?_))); (case side2 => exact HC0_0.out); rintro e w17 ⟨rfl, hb⟩; have n0_ := Aside0.mk (kB (g := gb154) (o := .cells #[.slice A0_0 l0_0.length c0_0, .slice A0_1 l0_1.length c0_1, .slice A0_2 l0_2.length c0_2, .int .i64 a0_3] 26 (0, 0)) (by (with_reducible repeat (first | refine kN ?_ _ | refine kD ?_ | refine kA ?_ _)); exact BK154.out) hb); have n1_ := Aside0.mk (bT (by repeat (first | (with_reducible first | exact HB.out | apply bA | apply bN | apply bD | refine bS ?_ GE154.out) | exact HB.out)) hb); clear BK154; clear HB; have BK154 := n0_; have HB := n1_; clear n0_ n1_; (try clear hb); (try clear hb2); (try clear hk); (try clear hi); have hcz18_0 : w17.cell? ⟨gb154, 0, none⟩ = some (.slice A0_0 l0_0.length c0_0) := (kC BK154.out 0).trans rfl; have hcz18_1 : w17.cell? ⟨gb154, 1, none⟩ = some (.slice A0_1 l0_1.length c0_1) := (kC BK154.out 1).trans rfl; have hcz18_2 : w17.cell? ⟨gb154, 2, none⟩ = some (.slice A0_2 l0_2.length c0_2) := (kC BK154.out 2).trans rfl; have hcz18_3 : w17.cell? ⟨gb154, 3, none⟩ = some (.int .i64 a0_3) := (kC BK154.out 3).trans rfl; have hfz18_0 := kF BK154.out 0; have hfz18_1 := kF BK154.out 1; have hfz18_2 := kF BK154.out 2; have hfz18_3 := kF BK154.out 3) | (go_at_call 28; (with_reducible refine (cII.calls k _ _ l0_1  true _ ?side1 ?side2 A13.out).mono ?_); (case side1 => repeat (first | exact (Kd.C_below HR0_1.out HB.out) | (with_reducible refine Kd.C_alloc ?_ _) | (with_reducible refine Kd.C_drewN ?_ _) | (with_reducible refine Kd.C_drew ?_))); (case side2 => exact HC0_1.out); rintro e w19 ⟨rfl, hb⟩; have n0_ := Aside0.mk (kB (g := gb154) (o := .cells #[.slice A0_0 l0_0.length c0_0, .slice A0_1 l0_1.length c0_1, .slice A0_2 l0_2.length c0_2, .int .i64 a0_3] 26 (0, 0)) (by (with_reducible repeat (first | refine kN ?_ _ | refine kD ?_ | refine kA ?_ _)); exact BK154.out) hb); have n1_ := Aside0.mk (bT (by repeat (first | (with_reducible first | exact HB.out | apply bA | apply bN | apply bD | refine bS ?_ GE154.out) | exact HB.out)) hb); clear BK154; clear HB; have BK154 := n0_; have HB := n1_; clear n0_ n1_; (try clear hb); (try clear hb2); (try clear hk); (try clear hi)))
      go_ret
      exact ⟨by first | rfl | (simp [wN, wS] <;> rfl) | (simp [*, wN, wS] <;> rfl), by repeat (first | (with_reducible first | exact HB.out | apply bA | apply bN | apply bD | refine bS ?_ GE154.out) | exact HB.out)⟩
     replace c14 := Bool.eq_false_iff.mpr c14
     subst c14
     have H1 : ((cSS.f k l0_2).bind fun t159 => (some (!t159))) = some r := by rw [if_neg (show ¬ (false = true) by decide)] at H; exact H
     clear H
     have H := H1
     clear H1
     replace H := Option.bind_eq_some_iff.mp H
     obtain ⟨t159, A200, H⟩ := H
     replace H : (some (!t159)) = some r := H
     have A20 := Aside0.mk A200
     clear A200
     obtain rfl := Option.some.inj H
     go_enter Try.func13, Try.ntmps13
     go_wp2_with (first | ((with_reducible refine gate_dst (N := 1) rfl ?_); (try (refine gate_guard (by rfl) ?_; dsimp only)); refine box_event ?hg (N := 1) ?hd (cs := #[.slice A0_0 l0_0.length c0_0, .slice A0_1 l0_1.length c0_1, .slice A0_2 l0_2.length c0_2, .int .i64 a0_3]) (t := 26) ?hr ?_; (case hd => rfl); (case hg => rfl); (case hr => first | (go_simp; done) | (go_simp; rfl)); intro gb154 hg w21 hbox hb; have n0_ := Aside0.mk (bT (by repeat (first | (with_reducible first | exact HB.out | apply bA | apply bN | apply bD) | exact HB.out)) hb); have n1_ := Aside0.mk (hbox); have n2_ := Aside0.mk ((by rw [hg]; exact (bZ (by repeat (first | (with_reducible first | exact HB.out | apply bA | apply bN | apply bD) | exact HB.out))) : w.heap.size ≤ gb154)); have n3_ := Aside0.mk ((by rw [hg]; exact (bZ (by repeat (first | (with_reducible first | exact HB.out | apply bA | apply bN | apply bD) | exact HB.out))) : w.heap.size ≤ gb154)); clear HB; have HB := n0_; have BK154 := n1_; have GW154 := n2_; have GE154 := n3_; clear n0_ n1_ n2_ n3_; clear hb hbox hg; have hcz22_0 : w21.cell? ⟨gb154, 0, none⟩ = some (.slice A0_0 l0_0.length c0_0) := (kC BK154.out 0).trans rfl; have hcz22_1 : w21.cell? ⟨gb154, 1, none⟩ = some (.slice A0_1 l0_1.length c0_1) := (kC BK154.out 1).trans rfl; have hcz22_2 : w21.cell? ⟨gb154, 2, none⟩ = some (.slice A0_2 l0_2.length c0_2) := (kC BK154.out 2).trans rfl; have hcz22_3 : w21.cell? ⟨gb154, 3, none⟩ = some (.int .i64 a0_3) := (kC BK154.out 3).trans rfl; have hfz22_0 := kF BK154.out 0; have hfz22_1 := kF BK154.out 1; have hfz22_2 := kF BK154.out 2; have hfz22_3 := kF BK154.out 3) | ((with_reducible refine gate_callee (f := 25) rfl ?_); refine goesL_ (some 7) rfl rfl Try.func25 (by kernel_rfl) rfl #[.int .i64 (l0_0.length : Int), .int .i64 1, .int .i64 120] rfl (by (try simp only [List.map_toArray, List.map_cons, List.map_nil]); first | done | rfl | (simp only [List.length_drop, List.length_take]; rfl)) ?_; (with_reducible refine (code_in.calls (l0_0.length : Int) 1 120 true _ A2.out).mono ?_); rintro e w' ⟨rfl, ⟨nd, rfl⟩⟩; refine ⟨_, rfl, ?_⟩) | (go_at_call 25; (with_reducible refine (code_in.calls a0_3 0 60 true _ A6.out).mono ?_); rintro e w' ⟨rfl, ⟨nd, rfl⟩⟩) | (go_at_call 26; (with_reducible refine (api_Body_26.calls k _ _ l0_0  false _ ?side1 ?side2 A8.out).mono ?_); (case side1 => repeat (first | exact (Kd.C_below HR0_0.out (by repeat (first | (with_reducible first | exact HB.out | apply bA | apply bN | apply bD | refine bS ?_ GE154.out) | exact HB.out))) | (with_reducible refine Kd.C_alloc ?_ _) | (with_reducible refine Kd.C_drewN ?_ _) | (with_reducible refine Kd.C_drew ?_))); (case side2 => exact HC0_0.out); rintro e w23 ⟨rfl, hb⟩; have n0_ := Aside0.mk (kB (g := gb154) (o := .cells #[.slice A0_0 l0_0.length c0_0, .slice A0_1 l0_1.length c0_1, .slice A0_2 l0_2.length c0_2, .int .i64 a0_3] 26 (0, 0)) (by (with_reducible repeat (first | refine kN ?_ _ | refine kD ?_ | refine kA ?_ _)); exact BK154.out) hb); have n1_ := Aside0.mk (bT (by repeat (first | (with_reducible first | exact HB.out | apply bA | apply bN | apply bD | refine bS ?_ GE154.out) | exact HB.out)) hb); clear BK154; clear HB; have BK154 := n0_; have HB := n1_; clear n0_ n1_; (try clear hb); (try clear hb2); (try clear hk); (try clear hi); have hcz24_0 : w23.cell? ⟨gb154, 0, none⟩ = some (.slice A0_0 l0_0.length c0_0) := (kC BK154.out 0).trans rfl; have hcz24_1 : w23.cell? ⟨gb154, 1, none⟩ = some (.slice A0_1 l0_1.length c0_1) := (kC BK154.out 1).trans rfl; have hcz24_2 : w23.cell? ⟨gb154, 2, none⟩ = some (.slice A0_2 l0_2.length c0_2) := (kC BK154.out 2).trans rfl; have hcz24_3 : w23.cell? ⟨gb154, 3, none⟩ = some (.int .i64 a0_3) := (kC BK154.out 3).trans rfl; have hfz24_0 := kF BK154.out 0; have hfz24_1 := kF BK154.out 1; have hfz24_2 := kF BK154.out 2; have hfz24_3 := kF BK154.out 3) | (go_at_call 28; (with_reducible refine (cII.calls k _ _ l0_1  false _ ?side1 ?side2 A13.out).mono ?_); (case side1 => repeat (first | exact (Kd.C_below HR0_1.out HB.out) | (with_reducible refine Kd.C_alloc ?_ _) | (with_reducible refine Kd.C_drewN ?_ _) | (with_reducible refine Kd.C_drew ?_))); (case side2 => exact HC0_1.out); rintro e w25 ⟨rfl, hb⟩; have n0_ := Aside0.mk (kB (g := gb154) (o := .cells #[.slice A0_0 l0_0.length c0_0, .slice A0_1 l0_1.length c0_1, .slice A0_2 l0_2.length c0_2, .int .i64 a0_3] 26 (0, 0)) (by (with_reducible repeat (first | refine kN ?_ _ | refine kD ?_ | refine kA ?_ _)); exact BK154.out) hb); have n1_ := Aside0.mk (bT (by repeat (first | (with_reducible first | exact HB.out | apply bA | apply bN | apply bD | refine bS ?_ GE154.out) | exact HB.out)) hb); clear BK154; clear HB; have BK154 := n0_; have HB := n1_; clear n0_ n1_; (try clear hb); (try clear hb2); (try clear hk); (try clear hi); have hcz26_0 : w25.cell? ⟨gb154, 0, none⟩ = some (.slice A0_0 l0_0.length c0_0) := (kC BK154.out 0).trans rfl; have hcz26_1 : w25.cell? ⟨gb154, 1, none⟩ = some (.slice A0_1 l0_1.length c0_1) := (kC BK154.out 1).trans rfl; have hcz26_2 : w25.cell? ⟨gb154, 2, none⟩ = some (.slice A0_2 l0_2.length c0_2) := (kC BK154.out 2).trans rfl; have hcz26_3 : w25.cell? ⟨gb154, 3, none⟩ = some (.int .i64 a0_3) := (kC BK154.out 3).trans rfl; have hfz26_0 := kF BK154.out 0; have hfz26_1 := kF BK154.out 1; have hfz26_2 := kF BK154.out 2; have hfz26_3 := kF BK154.out 3) | (go_at_call 30; (with_reducible refine (cSS.calls k _ _ l0_2  t159 _ ?side1 ?side2 A20.out).mono ?_); (case side1 => repeat (first | exact (Kd.C_below HR0_2.out HB.out) | (with_reducible refine Kd.C_alloc ?_ _) | (with_reducible refine Kd.C_drewN ?_ _) | (with_reducible refine Kd.C_drew ?_))); (case side2 => exact HC0_2.out); rintro e w27 ⟨rfl, hb⟩; have n0_ := Aside0.mk (kB (g := gb154) (o := .cells #[.slice A0_0 l0_0.length c0_0, .slice A0_1 l0_1.length c0_1, .slice A0_2 l0_2.length c0_2, .int .i64 a0_3] 26 (0, 0)) (by (with_reducible repeat (first | refine kN ?_ _ | refine kD ?_ | refine kA ?_ _)); exact BK154.out) hb); have n1_ := Aside0.mk (bT (by repeat (first | (with_reducible first | exact HB.out | apply bA | apply bN | apply bD | refine bS ?_ GE154.out) | exact HB.out)) hb); clear BK154; clear HB; have BK154 := n0_; have HB := n1_; clear n0_ n1_; (try clear hb); (try clear hb2); (try clear hk); (try clear hi)))
     go_ret
     exact ⟨by first | rfl | (simp [wN, wS] <;> rfl) | (simp [*, wN, wS] <;> rfl), by repeat (first | (with_reducible first | exact HB.out | apply bA | apply bN | apply bD | refine bS ?_ GE154.out) | exact HB.out)⟩
    replace c7 := Bool.eq_false_iff.mpr c7
    subst c7
    have H1 : (some false) = some r := by rw [if_neg (show ¬ (false = true) by decide)] at H; exact H
    clear H
    have H := H1
    clear H1
    obtain rfl := Option.some.inj H
    go_enter Try.func13, Try.ntmps13
    go_wp2_with (first | ((with_reducible refine gate_dst (N := 1) rfl ?_); (try (refine gate_guard (by rfl) ?_; dsimp only)); refine box_event ?hg (N := 1) ?hd (cs := #[.slice A0_0 l0_0.length c0_0, .slice A0_1 l0_1.length c0_1, .slice A0_2 l0_2.length c0_2, .int .i64 a0_3]) (t := 26) ?hr ?_; (case hd => rfl); (case hg => rfl); (case hr => first | (go_simp; done) | (go_simp; rfl)); intro gb154 hg w28 hbox hb; have n0_ := Aside0.mk (bT (by repeat (first | (with_reducible first | exact HB.out | apply bA | apply bN | apply bD) | exact HB.out)) hb); have n1_ := Aside0.mk (hbox); have n2_ := Aside0.mk ((by rw [hg]; exact (bZ (by repeat (first | (with_reducible first | exact HB.out | apply bA | apply bN | apply bD) | exact HB.out))) : w.heap.size ≤ gb154)); have n3_ := Aside0.mk ((by rw [hg]; exact (bZ (by repeat (first | (with_reducible first | exact HB.out | apply bA | apply bN | apply bD) | exact HB.out))) : w.heap.size ≤ gb154)); clear HB; have HB := n0_; have BK154 := n1_; have GW154 := n2_; have GE154 := n3_; clear n0_ n1_ n2_ n3_; clear hb hbox hg; have hcz29_0 : w28.cell? ⟨gb154, 0, none⟩ = some (.slice A0_0 l0_0.length c0_0) := (kC BK154.out 0).trans rfl; have hcz29_1 : w28.cell? ⟨gb154, 1, none⟩ = some (.slice A0_1 l0_1.length c0_1) := (kC BK154.out 1).trans rfl; have hcz29_2 : w28.cell? ⟨gb154, 2, none⟩ = some (.slice A0_2 l0_2.length c0_2) := (kC BK154.out 2).trans rfl; have hcz29_3 : w28.cell? ⟨gb154, 3, none⟩ = some (.int .i64 a0_3) := (kC BK154.out 3).trans rfl; have hfz29_0 := kF BK154.out 0; have hfz29_1 := kF BK154.out 1; have hfz29_2 := kF BK154.out 2; have hfz29_3 := kF BK154.out 3) | ((with_reducible refine gate_callee (f := 25) rfl ?_); refine goesL_ (some 7) rfl rfl Try.func25 (by kernel_rfl) rfl #[.int .i64 (l0_0.length : Int), .int .i64 1, .int .i64 120] rfl (by (try simp only [List.map_toArray, List.map_cons, List.map_nil]); first | done | rfl | (simp only [List.length_drop, List.length_take]; rfl)) ?_; (with_reducible refine (code_in.calls (l0_0.length : Int) 1 120 true _ A2.out).mono ?_); rintro e w' ⟨rfl, ⟨nd, rfl⟩⟩; refine ⟨_, rfl, ?_⟩) | (go_at_call 25; (with_reducible refine (code_in.calls a0_3 0 60 false _ A6.out).mono ?_); rintro e w' ⟨rfl, ⟨nd, rfl⟩⟩))
    go_ret
    exact ⟨by first | rfl | (simp [wN, wS] <;> rfl) | (simp [*, wN, wS] <;> rfl), by repeat (first | (with_reducible first | exact HB.out | apply bA | apply bN | apply bD | refine bS ?_ GE154.out) | exact HB.out)⟩
   rw [if_neg c5] at H
   have c5b0 : decide ((l0_2.length : Int) ≤ 120) = false := decide_eq_false c5
   have c5b1 : decide (l0_2.length ≤ 120) = false := decide_eq_false (by omega)
   clear c5
   obtain rfl := Option.some.inj H
   go_enter Try.func13, Try.ntmps13
   go_wp2_with (first | ((with_reducible refine gate_dst (N := 1) rfl ?_); (try (refine gate_guard (by rfl) ?_; dsimp only)); refine box_event ?hg (N := 1) ?hd (cs := #[.slice A0_0 l0_0.length c0_0, .slice A0_1 l0_1.length c0_1, .slice A0_2 l0_2.length c0_2, .int .i64 a0_3]) (t := 26) ?hr ?_; (case hd => rfl); (case hg => rfl); (case hr => first | (go_simp; done) | (go_simp; rfl)); intro gb154 hg w30 hbox hb; have n0_ := Aside0.mk (bT (by repeat (first | (with_reducible first | exact HB.out | apply bA | apply bN | apply bD) | exact HB.out)) hb); have n1_ := Aside0.mk (hbox); have n2_ := Aside0.mk ((by rw [hg]; exact (bZ (by repeat (first | (with_reducible first | exact HB.out | apply bA | apply bN | apply bD) | exact HB.out))) : w.heap.size ≤ gb154)); have n3_ := Aside0.mk ((by rw [hg]; exact (bZ (by repeat (first | (with_reducible first | exact HB.out | apply bA | apply bN | apply bD) | exact HB.out))) : w.heap.size ≤ gb154)); clear HB; have HB := n0_; have BK154 := n1_; have GW154 := n2_; have GE154 := n3_; clear n0_ n1_ n2_ n3_; clear hb hbox hg; have hcz31_0 : w30.cell? ⟨gb154, 0, none⟩ = some (.slice A0_0 l0_0.length c0_0) := (kC BK154.out 0).trans rfl; have hcz31_1 : w30.cell? ⟨gb154, 1, none⟩ = some (.slice A0_1 l0_1.length c0_1) := (kC BK154.out 1).trans rfl; have hcz31_2 : w30.cell? ⟨gb154, 2, none⟩ = some (.slice A0_2 l0_2.length c0_2) := (kC BK154.out 2).trans rfl; have hcz31_3 : w30.cell? ⟨gb154, 3, none⟩ = some (.int .i64 a0_3) := (kC BK154.out 3).trans rfl; have hfz31_0 := kF BK154.out 0; have hfz31_1 := kF BK154.out 1; have hfz31_2 := kF BK154.out 2; have hfz31_3 := kF BK154.out 3) | ((with_reducible refine gate_callee (f := 25) rfl ?_); refine goesL_ (some 7) rfl rfl Try.func25 (by kernel_rfl) rfl #[.int .i64 (l0_0.length : Int), .int .i64 1, .int .i64 120] rfl (by (try simp only [List.map_toArray, List.map_cons, List.map_nil]); first | done | rfl | (simp only [List.length_drop, List.length_take]; rfl)) ?_; (with_reducible refine (code_in.calls (l0_0.length : Int) 1 120 true _ A2.out).mono ?_); rintro e w' ⟨rfl, ⟨nd, rfl⟩⟩; refine ⟨_, rfl, ?_⟩))
   go_ret
   exact ⟨by first | rfl | (simp [wN, wS] <;> rfl) | (simp [*, wN, wS] <;> rfl), by repeat (first | (with_reducible first | exact HB.out | apply bA | apply bN | apply bD | refine bS ?_ GE154.out) | exact HB.out)⟩
  rw [if_neg c4] at H
  have c4b0 : decide ((l0_1.length : Int) ≤ 120) = false := decide_eq_false c4
  have c4b1 : decide (l0_1.length ≤ 120) = false := decide_eq_false (by omega)
  clear c4
  obtain rfl := Option.some.inj H
  go_enter Try.func13, Try.ntmps13
  go_wp2_with (first | ((with_reducible refine gate_dst (N := 1) rfl ?_); (try (refine gate_guard (by rfl) ?_; dsimp only)); refine box_event ?hg (N := 1) ?hd (cs := #[.slice A0_0 l0_0.length c0_0, .slice A0_1 l0_1.length c0_1, .slice A0_2 l0_2.length c0_2, .int .i64 a0_3]) (t := 26) ?hr ?_; (case hd => rfl); (case hg => rfl); (case hr => first | (go_simp; done) | (go_simp; rfl)); intro gb154 hg w32 hbox hb; have n0_ := Aside0.mk (bT (by repeat (first | (with_reducible first | exact HB.out | apply bA | apply bN | apply bD) | exact HB.out)) hb); have n1_ := Aside0.mk (hbox); have n2_ := Aside0.mk ((by rw [hg]; exact (bZ (by repeat (first | (with_reducible first | exact HB.out | apply bA | apply bN | apply bD) | exact HB.out))) : w.heap.size ≤ gb154)); have n3_ := Aside0.mk ((by rw [hg]; exact (bZ (by repeat (first | (with_reducible first | exact HB.out | apply bA | apply bN | apply bD) | exact HB.out))) : w.heap.size ≤ gb154)); clear HB; have HB := n0_; have BK154 := n1_; have GW154 := n2_; have GE154 := n3_; clear n0_ n1_ n2_ n3_; clear hb hbox hg; have hcz33_0 : w32.cell? ⟨gb154, 0, none⟩ = some (.slice A0_0 l0_0.length c0_0) := (kC BK154.out 0).trans rfl; have hcz33_1 : w32.cell? ⟨gb154, 1, none⟩ = some (.slice A0_1 l0_1.length c0_1) := (kC BK154.out 1).trans rfl; have hcz33_2 : w32.cell? ⟨gb154, 2, none⟩ = some (.slice A0_2 l0_2.length c0_2) := (kC BK154.out 2).trans rfl; have hcz33_3 : w32.cell? ⟨gb154, 3, none⟩ = some (.int .i64 a0_3) := (kC BK154.out 3).trans rfl; have hfz33_0 := kF BK154.out 0; have hfz33_1 := kF BK154.out 1; have hfz33_2 := kF BK154.out 2; have hfz33_3 := kF BK154.out 3) | ((with_reducible refine gate_callee (f := 25) rfl ?_); refine goesL_ (some 7) rfl rfl Try.func25 (by kernel_rfl) rfl #[.int .i64 (l0_0.length : Int), .int .i64 1, .int .i64 120] rfl (by (try simp only [List.map_toArray, List.map_cons, List.map_nil]); first | done | rfl | (simp only [List.length_drop, List.length_take]; rfl)) ?_; (with_reducible refine (code_in.calls (l0_0.length : Int) 1 120 true _ A2.out).mono ?_); rintro e w' ⟨rfl, ⟨nd, rfl⟩⟩; refine ⟨_, rfl, ?_⟩))
  go_ret
  exact ⟨by first | rfl | (simp [wN, wS] <;> rfl) | (simp [*, wN, wS] <;> rfl), by repeat (first | (with_reducible first | exact HB.out | apply bA | apply bN | apply bD | refine bS ?_ GE154.out) | exact HB.out)⟩
 replace c3 := Bool.eq_false_iff.mpr c3
 subst c3
 have H1 : (some false) = some r := by rw [if_neg (show ¬ (false = true) by decide)] at H; exact H
 clear H
 have H := H1
 clear H1
 obtain rfl := Option.some.inj H
 go_enter Try.func13, Try.ntmps13
 go_wp2_with (first | ((with_reducible refine gate_dst (N := 1) rfl ?_); (try (refine gate_guard (by rfl) ?_; dsimp only)); refine box_event ?hg (N := 1) ?hd (cs := #[.slice A0_0 l0_0.length c0_0, .slice A0_1 l0_1.length c0_1, .slice A0_2 l0_2.length c0_2, .int .i64 a0_3]) (t := 26) ?hr ?_; (case hd => rfl); (case hg => rfl); (case hr => first | (go_simp; done) | (go_simp; rfl)); intro gb154 hg w34 hbox hb; have n0_ := Aside0.mk (bT (by repeat (first | (with_reducible first | exact HB.out | apply bA | apply bN | apply bD) | exact HB.out)) hb); have n1_ := Aside0.mk (hbox); have n2_ := Aside0.mk ((by rw [hg]; exact (bZ (by repeat (first | (with_reducible first | exact HB.out | apply bA | apply bN | apply bD) | exact HB.out))) : w.heap.size ≤ gb154)); have n3_ := Aside0.mk ((by rw [hg]; exact (bZ (by repeat (first | (with_reducible first | exact HB.out | apply bA | apply bN | apply bD) | exact HB.out))) : w.heap.size ≤ gb154)); clear HB; have HB := n0_; have BK154 := n1_; have GW154 := n2_; have GE154 := n3_; clear n0_ n1_ n2_ n3_; clear hb hbox hg; have hcz35_0 : w34.cell? ⟨gb154, 0, none⟩ = some (.slice A0_0 l0_0.length c0_0) := (kC BK154.out 0).trans rfl; have hcz35_1 : w34.cell? ⟨gb154, 1, none⟩ = some (.slice A0_1 l0_1.length c0_1) := (kC BK154.out 1).trans rfl; have hcz35_2 : w34.cell? ⟨gb154, 2, none⟩ = some (.slice A0_2 l0_2.length c0_2) := (kC BK154.out 2).trans rfl; have hcz35_3 : w34.cell? ⟨gb154, 3, none⟩ = some (.int .i64 a0_3) := (kC BK154.out 3).trans rfl; have hfz35_0 := kF BK154.out 0; have hfz35_1 := kF BK154.out 1; have hfz35_2 := kF BK154.out 2; have hfz35_3 := kF BK154.out 3) | ((with_reducible refine gate_callee (f := 25) rfl ?_); refine goesL_ (some 7) rfl rfl Try.func25 (by kernel_rfl) rfl #[.int .i64 (l0_0.length : Int), .int .i64 1, .int .i64 120] rfl (by (try simp only [List.map_toArray, List.map_cons, List.map_nil]); first | done | rfl | (simp only [List.length_drop, List.length_take]; rfl)) ?_; (with_reducible refine (code_in.calls (l0_0.length : Int) 1 120 false _ A2.out).mono ?_); rintro e w' ⟨rfl, ⟨nd, rfl⟩⟩; refine ⟨_, rfl, ?_⟩))
 go_ret
 exact ⟨by first | rfl | (simp [wN, wS] <;> rfl) | (simp [*, wN, wS] <;> rfl), by repeat (first | (with_reducible first | exact HB.out | apply bA | apply bN | apply bD | refine bS ?_ GE154.out) | exact HB.out)⟩

end Go.Proofs.Ytadbiogchgglpaa.Q
