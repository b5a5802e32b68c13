-- PRINTED by print.py (a twelfth state) out of the translation. Not trusted: Lean checks it.
import Derived.Test.YtadbiogchgglpaaQx0
import Derived.Test.YtadbiogchgglpaaQx13
namespace Go.Proofs.Ytadbiogchgglpaa.Q
open Go.RowKit Go.Proofs.YtadbiogchgglpaaW.PrintWords Go.Proofs.YtadbiogchgglpaaW.PrintLast Go.Proofs.YtadbiogchgglpaaW.PrintMore
attribute [local go_sem] max2_int min2_int max_two min_two max_three min_three max_four min_four   -- for this text's walks alone
set_option linter.unusedVariables false
set_option linter.unusedSimpArgs false

/-! ### zM: function 14 -/
mutual
def zM.j0 : Nat → Bool → List (S40) → List Int → List ByteArray → Int → Option (Bool)
 | 0, _, _, _, _, _ => none
 | k + 1, x40, x239000, x239001, x239002, x239003 => if x40 = true then (some false) else (zM.l0 k 0 x239000 x239001 x239002 x239003)
def zM.l0 : Nat → Int → List (S40) → List Int → List ByteArray → Int → Option (Bool)
 | 0, _, _, _, _, _ => none
 | k + 1, x3, x239000, x239001, x239002, x239003 => if x3 < (x239001.length : Int) then (if 0 ≤ x3 then (if (rd x239001 x3) < (-4611686018427387904) then (some false) else (if (rd x239001 x3) > 4611686018427387903 then (some false) else (zM.l0 k (wrap64 (x3 + 1)) x239000 x239001 x239002 x239003))) else (none)) else (zM.l1 k 0 x239000 x239001 x239002 x239003)
def zM.l1 : Nat → Int → List (S40) → List Int → List ByteArray → Int → Option (Bool)
 | 0, _, _, _, _, _ => none
 | k + 1, x4, x239000, x239001, x239002, x239003 => if x4 < (x239002.length : Int) then (if 0 ≤ x4 then (if ((rdOf ByteArray.empty x239002 x4).size : Int) > 60 then (some false) else (zM.l1 k (wrap64 (x4 + 1)) x239000 x239001 x239002 x239003)) else (none)) else (zM.l2 k 0 x239000 x239001 x239002 x239003)
def zM.l2 : Nat → Int → List (S40) → List Int → List ByteArray → Int → Option (Bool)
 | 0, _, _, _, _, _ => none
 | k + 1, x5, x239000, x239001, x239002, x239003 => if x5 < (x239000.length : Int) then (if 0 ≤ x5 then (if ((r40 x239000 x5).f0) < 0 then (zM.j4 k x5 true x239000 x239001 x239002 x239003 ((r40 x239000 x5).f0) ((r40 x239000 x5).f1) ((r40 x239000 x5).f2) ((r40 x239000 x5).f3)) else (if ((r40 x239000 x5).f0) > 59 then (zM.j4 k x5 true x239000 x239001 x239002 x239003 ((r40 x239000 x5).f0) ((r40 x239000 x5).f1) ((r40 x239000 x5).f2) ((r40 x239000 x5).f3)) else (if ((r40 x239000 x5).f1) < 0 then (zM.j4 k x5 true x239000 x239001 x239002 x239003 ((r40 x239000 x5).f0) ((r40 x239000 x5).f1) ((r40 x239000 x5).f2) ((r40 x239000 x5).f3)) else (if ((r40 x239000 x5).f1) > 60 then (zM.j4 k x5 true x239000 x239001 x239002 x239003 ((r40 x239000 x5).f0) ((r40 x239000 x5).f1) ((r40 x239000 x5).f2) ((r40 x239000 x5).f3)) else (if ((r40 x239000 x5).f2) < 1 then (zM.j4 k x5 true x239000 x239001 x239002 x239003 ((r40 x239000 x5).f0) ((r40 x239000 x5).f1) ((r40 x239000 x5).f2) ((r40 x239000 x5).f3)) else (if ((r40 x239000 x5).f2) > 60 then (zM.j4 k x5 true x239000 x239001 x239002 x239003 ((r40 x239000 x5).f0) ((r40 x239000 x5).f1) ((r40 x239000 x5).f2) ((r40 x239000 x5).f3)) else (if (((r40 x239000 x5).f3).length : Int) < 1 then (zM.j4 k x5 true x239000 x239001 x239002 x239003 ((r40 x239000 x5).f0) ((r40 x239000 x5).f1) ((r40 x239000 x5).f2) ((r40 x239000 x5).f3)) else (zM.j4 k x5 (decide ((((r40 x239000 x5).f3).length : Int) > 400)) x239000 x239001 x239002 x239003 ((r40 x239000 x5).f0) ((r40 x239000 x5).f1) ((r40 x239000 x5).f2) ((r40 x239000 x5).f3))))))))) else (none)) else (some true)
def zM.j4 : Nat → Int → Bool → List (S40) → List Int → List ByteArray → Int → Int → Int → Int → List (S42) → Option (Bool)
 | 0, _, _, _, _, _, _, _, _, _, _ => none
 | k + 1, x5, x127, x239000, x239001, x239002, x239003, x244000, x244001, x244002, x244003 => if x127 = true then (some false) else (zM.l3 k x5 0 x239000 x239001 x239002 x239003 x244000 x244001 x244002 x244003)
def zM.l3 : Nat → Int → Int → List (S40) → List Int → List ByteArray → Int → Int → Int → Int → List (S42) → Option (Bool)
 | 0, _, _, _, _, _, _, _, _, _, _ => none
 | k + 1, x5, x7, x239000, x239001, x239002, x239003, x244000, x244001, x244002, x244003 => if x7 < (x244003.length : Int) then (if 0 ≤ x7 then ((selvageref13_Instr.f k ((r42 x244003 x7).f0) ((r42 x244003 x7).f1) ((r42 x244003 x7).f2)).bind fun t245 => (if t245 = true then (zM.l3 k x5 (wrap64 (x7 + 1)) x239000 x239001 x239002 x239003 x244000 x244001 x244002 x244003) else (some false))) else (none)) else (zM.l2 k (wrap64 (x5 + 1)) x239000 x239001 x239002 x239003)
end
def zM.f (k : Nat) (l0_0 : List (S40)) (l0_1 : List Int) (l0_2 : List ByteArray) (a0_3 : Int) : Option (Bool) := if (l0_0.length : Int) < 1 then (zM.j0 k true l0_0 l0_1 l0_2 a0_3) else (if (l0_0.length : Int) > 120 then (zM.j0 k true l0_0 l0_1 l0_2 a0_3) else (if (l0_1.length : Int) > 120 then (zM.j0 k true l0_0 l0_1 l0_2 a0_3) else (if (l0_2.length : Int) > 120 then (zM.j0 k true l0_0 l0_1 l0_2 a0_3) else (if a0_3 < 0 then (zM.j0 k true l0_0 l0_1 l0_2 a0_3) else (zM.j0 k (decide (a0_3 > 60)) l0_0 l0_1 l0_2 a0_3)))))
theorem zM.mono_l : ∀ k, (∀ y0 y1 y2 y3 y4, LeO (zM.j0 k y0 y1 y2 y3 y4) (zM.j0 (k + 1) y0 y1 y2 y3 y4)) ∧ (∀ y0 y1 y2 y3 y4, LeO (zM.l0 k y0 y1 y2 y3 y4) (zM.l0 (k + 1) y0 y1 y2 y3 y4)) ∧ (∀ y0 y1 y2 y3 y4, LeO (zM.l1 k y0 y1 y2 y3 y4) (zM.l1 (k + 1) y0 y1 y2 y3 y4)) ∧ (∀ y0 y1 y2 y3 y4, LeO (zM.l2 k y0 y1 y2 y3 y4) (zM.l2 (k + 1) y0 y1 y2 y3 y4)) ∧ (∀ y0 y1 y2 y3 y4 y5 y6 y7 y8 y9, LeO (zM.j4 k y0 y1 y2 y3 y4 y5 y6 y7 y8 y9) (zM.j4 (k + 1) y0 y1 y2 y3 y4 y5 y6 y7 y8 y9)) ∧ (∀ y0 y1 y2 y3 y4 y5 y6 y7 y8 y9, LeO (zM.l3 k y0 y1 y2 y3 y4 y5 y6 y7 y8 y9) (zM.l3 (k + 1) y0 y1 y2 y3 y4 y5 y6 y7 y8 y9))
 | 0 => ⟨fun _ _ _ _ _ r h => by simp [zM.j0] at h, fun _ _ _ _ _ r h => by simp [zM.l0] at h, fun _ _ _ _ _ r h => by simp [zM.l1] at h, fun _ _ _ _ _ r h => by simp [zM.l2] at h, fun _ _ _ _ _ _ _ _ _ _ r h => by simp [zM.j4] at h, fun _ _ _ _ _ _ _ _ _ _ r h => by simp [zM.l3] at h⟩
 | k + 1 => by
  obtain ⟨ih0, ih1, ih2, ih3, ih4, ih5⟩ := zM.mono_l k
  refine ⟨?_, ?_, ?_, ?_, ?_, ?_⟩
  ·intro y0 y1 y2 y3 y4
   unfold zM.j0
   repeat' first
   | (with_reducible exact ih0 _ _ _ _ _)
   | (with_reducible exact ih1 _ _ _ _ _)
   | (with_reducible exact ih2 _ _ _ _ _)
   | (with_reducible exact ih3 _ _ _ _ _)
   | (with_reducible exact ih4 _ _ _ _ _ _ _ _ _ _)
   | (with_reducible exact ih5 _ _ _ _ _ _ _ _ _ _)
   | (with_reducible exact selvageref13_Instr.mono _ _ _ _)
   | (with_reducible exact LeO.refl _)
   | (with_reducible exact LeO.none _)
   | (with_reducible refine LeO.ite ?_ ?_)
   | (with_reducible refine LeO.bind ?_ (fun _ => ?_))
   | exact ih0 _ _ _ _ _
   | exact ih1 _ _ _ _ _
   | exact ih2 _ _ _ _ _
   | exact ih3 _ _ _ _ _
   | exact ih4 _ _ _ _ _ _ _ _ _ _
   | exact ih5 _ _ _ _ _ _ _ _ _ _
   | exact selvageref13_Instr.mono _ _ _ _
   | exact LeO.none _
   | refine LeO.ite ?_ ?_
   | refine LeO.bind ?_ (fun _ => ?_)
  ·intro y0 y1 y2 y3 y4
   unfold zM.l0
   repeat' first
   | (with_reducible exact ih0 _ _ _ _ _)
   | (with_reducible exact ih1 _ _ _ _ _)
   | (with_reducible exact ih2 _ _ _ _ _)
   | (with_reducible exact ih3 _ _ _ _ _)
   | (with_reducible exact ih4 _ _ _ _ _ _ _ _ _ _)
   | (with_reducible exact ih5 _ _ _ _ _ _ _ _ _ _)
   | (with_reducible exact selvageref13_Instr.mono _ _ _ _)
   | (with_reducible exact LeO.refl _)
   | (with_reducible exact LeO.none _)
   | (with_reducible refine LeO.ite ?_ ?_)
   | (with_reducible refine LeO.bind ?_ (fun _ => ?_))
   | exact ih0 _ _ _ _ _
   | exact ih1 _ _ _ _ _
   | exact ih2 _ _ _ _ _
   | exact ih3 _ _ _ _ _
   | exact ih4 _ _ _ _ _ _ _ _ _ _
   | exact ih5 _ _ _ _ _ _ _ _ _ _
   | exact selvageref13_Instr.mono _ _ _ _
   | exact LeO.none _
   | refine LeO.ite ?_ ?_
   | refine LeO.bind ?_ (fun _ => ?_)
  ·intro y0 y1 y2 y3 y4
   unfold zM.l1
   repeat' first
   | (with_reducible exact ih0 _ _ _ _ _)
   | (with_reducible exact ih1 _ _ _ _ _)
   | (with_reducible exact ih2 _ _ _ _ _)
   | (with_reducible exact ih3 _ _ _ _ _)
   | (with_reducible exact ih4 _ _ _ _ _ _ _ _ _ _)
   | (with_reducible exact ih5 _ _ _ _ _ _ _ _ _ _)
   | (with_reducible exact selvageref13_Instr.mono _ _ _ _)
   | (with_reducible exact LeO.refl _)
   | (with_reducible exact LeO.none _)
   | (with_reducible refine LeO.ite ?_ ?_)
   | (with_reducible refine LeO.bind ?_ (fun _ => ?_))
   | exact ih0 _ _ _ _ _
   | exact ih1 _ _ _ _ _
   | exact ih2 _ _ _ _ _
   | exact ih3 _ _ _ _ _
   | exact ih4 _ _ _ _ _ _ _ _ _ _
   | exact ih5 _ _ _ _ _ _ _ _ _ _
   | exact selvageref13_Instr.mono _ _ _ _
   | exact LeO.none _
   | refine LeO.ite ?_ ?_
   | refine LeO.bind ?_ (fun _ => ?_)
  ·intro y0 y1 y2 y3 y4
   unfold zM.l2
   repeat' first
   | (with_reducible exact ih0 _ _ _ _ _)
   | (with_reducible exact ih1 _ _ _ _ _)
   | (with_reducible exact ih2 _ _ _ _ _)
   | (with_reducible exact ih3 _ _ _ _ _)
   | (with_reducible exact ih4 _ _ _ _ _ _ _ _ _ _)
   | (with_reducible exact ih5 _ _ _ _ _ _ _ _ _ _)
   | (with_reducible exact selvageref13_Instr.mono _ _ _ _)
   | (with_reducible exact LeO.refl _)
   | (with_reducible exact LeO.none _)
   | (with_reducible refine LeO.ite ?_ ?_)
   | (with_reducible refine LeO.bind ?_ (fun _ => ?_))
   | exact ih0 _ _ _ _ _
   | exact ih1 _ _ _ _ _
   | exact ih2 _ _ _ _ _
   | exact ih3 _ _ _ _ _
   | exact ih4 _ _ _ _ _ _ _ _ _ _
   | exact ih5 _ _ _ _ _ _ _ _ _ _
   | exact selvageref13_Instr.mono _ _ _ _
   | exact LeO.none _
   | refine LeO.ite ?_ ?_
   | refine LeO.bind ?_ (fun _ => ?_)
  ·intro y0 y1 y2 y3 y4 y5 y6 y7 y8 y9
   unfold zM.j4
   repeat' first
   | (with_reducible exact ih0 _ _ _ _ _)
   | (with_reducible exact ih1 _ _ _ _ _)
   | (with_reducible exact ih2 _ _ _ _ _)
   | (with_reducible exact ih3 _ _ _ _ _)
   | (with_reducible exact ih4 _ _ _ _ _ _ _ _ _ _)
   | (with_reducible exact ih5 _ _ _ _ _ _ _ _ _ _)
   | (with_reducible exact selvageref13_Instr.mono _ _ _ _)
   | (with_reducible exact LeO.refl _)
   | (with_reducible exact LeO.none _)
   | (with_reducible refine LeO.ite ?_ ?_)
   | (with_reducible refine LeO.bind ?_ (fun _ => ?_))
   | exact ih0 _ _ _ _ _
   | exact ih1 _ _ _ _ _
   | exact ih2 _ _ _ _ _
   | exact ih3 _ _ _ _ _
   | exact ih4 _ _ _ _ _ _ _ _ _ _
   | exact ih5 _ _ _ _ _ _ _ _ _ _
   | exact selvageref13_Instr.mono _ _ _ _
   | exact LeO.none _
   | refine LeO.ite ?_ ?_
   | refine LeO.bind ?_ (fun _ => ?_)
  intro y0 y1 y2 y3 y4 y5 y6 y7 y8 y9
  unfold zM.l3
  repeat' first
  | (with_reducible exact ih0 _ _ _ _ _)
  | (with_reducible exact ih1 _ _ _ _ _)
  | (with_reducible exact ih2 _ _ _ _ _)
  | (with_reducible exact ih3 _ _ _ _ _)
  | (with_reducible exact ih4 _ _ _ _ _ _ _ _ _ _)
  | (with_reducible exact ih5 _ _ _ _ _ _ _ _ _ _)
  | (with_reducible exact selvageref13_Instr.mono _ _ _ _)
  | (with_reducible exact LeO.refl _)
  | (with_reducible exact LeO.none _)
  | (with_reducible refine LeO.ite ?_ ?_)
  | (with_reducible refine LeO.bind ?_ (fun _ => ?_))
  | exact ih0 _ _ _ _ _
  | exact ih1 _ _ _ _ _
  | exact ih2 _ _ _ _ _
  | exact ih3 _ _ _ _ _
  | exact ih4 _ _ _ _ _ _ _ _ _ _
  | exact ih5 _ _ _ _ _ _ _ _ _ _
  | exact selvageref13_Instr.mono _ _ _ _
  | exact LeO.none _
  | refine LeO.ite ?_ ?_
  | refine LeO.bind ?_ (fun _ => ?_)
theorem zM.mono : ∀ a0 a1 a2 a3 k, LeO (zM.f k a0 a1 a2 a3) (zM.f (k + 1) a0 a1 a2 a3) := by
 intro a0 a1 a2 a3 k
 obtain ⟨ih0, ih1, ih2, ih3, ih4, ih5⟩ := zM.mono_l k
 unfold zM.f
 repeat' first
   | (with_reducible exact ih0 _ _ _ _ _)
   | (with_reducible exact ih1 _ _ _ _ _)
   | (with_reducible exact ih2 _ _ _ _ _)
   | (with_reducible exact ih3 _ _ _ _ _)
   | (with_reducible exact ih4 _ _ _ _ _ _ _ _ _ _)
   | (with_reducible exact ih5 _ _ _ _ _ _ _ _ _ _)
   | (with_reducible exact selvageref13_Instr.mono _ _ _ _)
   | (with_reducible exact LeO.refl _)
   | (with_reducible exact LeO.none _)
   | (with_reducible refine LeO.ite ?_ ?_)
   | (with_reducible refine LeO.bind ?_ (fun _ => ?_))
   | exact ih0 _ _ _ _ _
   | exact ih1 _ _ _ _ _
   | exact ih2 _ _ _ _ _
   | exact ih3 _ _ _ _ _
   | exact ih4 _ _ _ _ _ _ _ _ _ _
   | exact ih5 _ _ _ _ _ _ _ _ _ _
   | exact selvageref13_Instr.mono _ _ _ _
   | exact LeO.none _
   | refine LeO.ite ?_ ?_
   | refine LeO.bind ?_ (fun _ => ?_)
set_option maxHeartbeats 8000000 in
set_option maxRecDepth 100000 in
theorem zM.calls (k : Nat) (A0_0 : Option Addr) (c0_0 : Nat) (l0_0 : List (S40)) (A0_1 : Option Addr) (c0_1 : Nat) (l0_1 : List Int) (A0_2 : Option Addr) (c0_2 : Nat) (l0_2 : List ByteArray) (a0_3 : Int) (r : Bool) (w : World) (hr0_0 : Kd.C k40 w A0_0 l0_0.length l0_0) (hc0_0 : l0_0.length ≤ c0_0) (hr0_1 : Kd.C (Kd.int .i64) w A0_1 l0_1.length l0_1) (hc0_1 : l0_1.length ≤ c0_1) (hr0_2 : Kd.C Kd.string w A0_2 l0_2.length l0_2) (hc0_2 : l0_2.length ≤ c0_2) (h : zM.f k l0_0 l0_1 l0_2 a0_3 = some r) :
  Calls Try.prog 14 #[.agg #[.slice A0_0 l0_0.length c0_0, .slice A0_1 l0_1.length c0_1, .slice A0_2 l0_2.length c0_2, .int .i64 a0_3]] w fun e w' => e = .returned (.bool r) ∧ Below w.heap.size w w' := by
 have hu26 := Try.underlying26
 have hu40 := Try.underlying40
 have hu42 := Try.underlying42
 have HR0_0 := Aside0.mk hr0_0
 have HC0_0 := Aside0.mk hc0_0
 clear hr0_0 hc0_0
 have HR0_1 := Aside0.mk hr0_1
 have HC0_1 := Aside0.mk hc0_1
 clear hr0_1 hc0_1
 have HR0_2 := Aside0.mk hr0_2
 have HC0_2 := Aside0.mk hc0_2
 clear hr0_2 hc0_2
 have HB := Aside0.mk (Below.refl w.heap.size w)
 have H : (if (l0_0.length : Int) < 1 then (zM.j0 k true l0_0 l0_1 l0_2 a0_3) else (if (l0_0.length : Int) > 120 then (zM.j0 k true l0_0 l0_1 l0_2 a0_3) else (if (l0_1.length : Int) > 120 then (zM.j0 k true l0_0 l0_1 l0_2 a0_3) else (if (l0_2.length : Int) > 120 then (zM.j0 k true l0_0 l0_1 l0_2 a0_3) else (if a0_3 < 0 then (zM.j0 k true l0_0 l0_1 l0_2 a0_3) else (zM.j0 k (decide (a0_3 > 60)) l0_0 l0_1 l0_2 a0_3)))))) = some r := h
 clear h
 have HC2 := Aside0.mk H
 clear H
 go_enter Try.func14, Try.ntmps14
 go_upto_region 1 with (first | ((with_reducible refine gate_dst (N := 1) rfl ?_); (try (refine gate_guard (by rfl) ?_; dsimp only)); refine box_event ?hg (N := 1) ?hd (cs := #[.slice A0_0 l0_0.length c0_0, .slice A0_1 l0_1.length c0_1, .slice A0_2 l0_2.length c0_2, .int .i64 a0_3]) (t := 26) ?hr ?_; (case hd => rfl); (case hg => rfl); (case hr => first | (go_simp; done) | (go_simp; rfl)); intro gb238 hg w3 hbox hb; have n0_ := Aside0.mk (bT (by repeat (first | (with_reducible first | exact HB.out | apply bA | apply bN | apply bD) | exact HB.out)) hb); have n1_ := Aside0.mk (hbox); have n2_ := Aside0.mk ((by rw [hg]; exact (bZ (by repeat (first | (with_reducible first | exact HB.out | apply bA | apply bN | apply bD) | exact HB.out))) : w.heap.size ≤ gb238)); have n3_ := Aside0.mk ((by rw [hg]; exact (bZ (by repeat (first | (with_reducible first | exact HB.out | apply bA | apply bN | apply bD) | exact HB.out))) : w.heap.size ≤ gb238)); clear HB; have HB := n0_; have BK238 := n1_; have GW238 := n2_; have GE238 := n3_; clear n0_ n1_ n2_ n3_; clear hb hbox hg))
 (try simp only [Act.put, List.setIfInBounds_toArray, List.set_cons_zero, List.set_cons_succ])
 go_cut [40] (fun v40 wc => ∃ (kq : Nat) (x40_1 : Bool), v40 = .bool x40_1 ∧ Aside0 (zM.j0 kq x40_1 l0_0 l0_1 l0_2 a0_3 = some r) ∧ Aside0 (kq ≤ k) ∧ Aside0 (wc.heap[gb238]? = some (.cells #[(.slice A0_0 l0_0.length c0_0), (.slice A0_1 l0_1.length c0_1), (.slice A0_2 l0_2.length c0_2), .int .i64 a0_3] 26 (0, 0))) ∧ Aside0 (Below w.heap.size w wc))
 case first =>
  have H := HC2.out
  clear HC2
  by_cases c4 : (l0_0.length : Int) < 1
  ·rw [if_pos c4] at H
   have c4b0 : decide ((l0_0.length : Int) < 1) = true := decide_eq_true c4
   have c4b1 : decide (l0_0.length < 1) = true := decide_eq_true (by omega)
   clear c4
   (first | rw [c4b0] | (simp only [i64_w, i32_w]; rw [c4b0]) | skip)
   have H' := Aside0.mk H
   clear H
   have hcz5_0 : w3.cell? ⟨gb238, 0, none⟩ = some (.slice A0_0 l0_0.length c0_0) := (kC BK238.out 0).trans rfl
   have hcz5_1 : w3.cell? ⟨gb238, 1, none⟩ = some (.slice A0_1 l0_1.length c0_1) := (kC BK238.out 1).trans rfl
   have hcz5_2 : w3.cell? ⟨gb238, 2, none⟩ = some (.slice A0_2 l0_2.length c0_2) := (kC BK238.out 2).trans rfl
   have hcz5_3 : w3.cell? ⟨gb238, 3, none⟩ = some (.int .i64 a0_3) := (kC BK238.out 3).trans rfl
   have hfz5_0 := kF BK238.out 0
   have hfz5_1 := kF BK238.out 1
   have hfz5_2 := kF BK238.out 2
   have hfz5_3 := kF BK238.out 3
   go_wp2
   go_meet
   case rel => exact ⟨_, (true), (by first | rfl | (simp; done) | (simp [*]; done)), H', ⟨by first | omega | exact Nat.le_refl _⟩, ⟨by (with_reducible repeat (first | refine kN ?_ _ | refine kD ?_ | refine kA ?_ _)); exact BK238.out⟩, ⟨by repeat (first | (with_reducible first | exact HB.out | apply bA | apply bN | apply bD | refine bS ?_ GE238.out) | exact HB.out)⟩⟩
  rw [if_neg c4] at H
  have c4b0 : decide ((l0_0.length : Int) < 1) = false := decide_eq_false c4
  have c4b1 : decide (l0_0.length < 1) = false := decide_eq_false (by omega)
  clear c4
  (first | rw [c4b0] | (simp only [i64_w, i32_w]; rw [c4b0]) | skip)
  by_cases c6 : (l0_0.length : Int) > 120
  ·rw [if_pos c6] at H
   have c6b0 : decide (120 < (l0_0.length : Int)) = true := decide_eq_true c6
   have c6b1 : decide (120 < l0_0.length) = true := decide_eq_true (by omega)
   clear c6
   have H' := Aside0.mk H
   clear H
   have hcz7_0 : w3.cell? ⟨gb238, 0, none⟩ = some (.slice A0_0 l0_0.length c0_0) := (kC BK238.out 0).trans rfl
   have hcz7_1 : w3.cell? ⟨gb238, 1, none⟩ = some (.slice A0_1 l0_1.length c0_1) := (kC BK238.out 1).trans rfl
   have hcz7_2 : w3.cell? ⟨gb238, 2, none⟩ = some (.slice A0_2 l0_2.length c0_2) := (kC BK238.out 2).trans rfl
   have hcz7_3 : w3.cell? ⟨gb238, 3, none⟩ = some (.int .i64 a0_3) := (kC BK238.out 3).trans rfl
   have hfz7_0 := kF BK238.out 0
   have hfz7_1 := kF BK238.out 1
   have hfz7_2 := kF BK238.out 2
   have hfz7_3 := kF BK238.out 3
   go_wp2
   go_meet
   case rel => exact ⟨_, (true), (by first | rfl | (simp; done) | (simp [*]; done)), H', ⟨by first | omega | exact Nat.le_refl _⟩, ⟨by (with_reducible repeat (first | refine kN ?_ _ | refine kD ?_ | refine kA ?_ _)); exact BK238.out⟩, ⟨by repeat (first | (with_reducible first | exact HB.out | apply bA | apply bN | apply bD | refine bS ?_ GE238.out) | exact HB.out)⟩⟩
  rw [if_neg c6] at H
  have c6b0 : decide (120 < (l0_0.length : Int)) = false := decide_eq_false c6
  have c6b1 : decide (120 < l0_0.length) = false := decide_eq_false (by omega)
  clear c6
  by_cases c8 : (l0_1.length : Int) > 120
  ·rw [if_pos c8] at H
   have c8b0 : decide (120 < (l0_1.length : Int)) = true := decide_eq_true c8
   have c8b1 : decide (120 < l0_1.length) = true := decide_eq_true (by omega)
   clear c8
   have H' := Aside0.mk H
   clear H
   have hcz9_0 : w3.cell? ⟨gb238, 0, none⟩ = some (.slice A0_0 l0_0.length c0_0) := (kC BK238.out 0).trans rfl
   have hcz9_1 : w3.cell? ⟨gb238, 1, none⟩ = some (.slice A0_1 l0_1.length c0_1) := (kC BK238.out 1).trans rfl
   have hcz9_2 : w3.cell? ⟨gb238, 2, none⟩ = some (.slice A0_2 l0_2.length c0_2) := (kC BK238.out 2).trans rfl
   have hcz9_3 : w3.cell? ⟨gb238, 3, none⟩ = some (.int .i64 a0_3) := (kC BK238.out 3).trans rfl
   have hfz9_0 := kF BK238.out 0
   have hfz9_1 := kF BK238.out 1
   have hfz9_2 := kF BK238.out 2
   have hfz9_3 := kF BK238.out 3
   go_wp2
   go_meet
   case rel => exact ⟨_, (true), (by first | rfl | (simp; done) | (simp [*]; done)), H', ⟨by first | omega | exact Nat.le_refl _⟩, ⟨by (with_reducible repeat (first | refine kN ?_ _ | refine kD ?_ | refine kA ?_ _)); exact BK238.out⟩, ⟨by repeat (first | (with_reducible first | exact HB.out | apply bA | apply bN | apply bD | refine bS ?_ GE238.out) | exact HB.out)⟩⟩
  rw [if_neg c8] at H
  have c8b0 : decide (120 < (l0_1.length : Int)) = false := decide_eq_false c8
  have c8b1 : decide (120 < l0_1.length) = false := decide_eq_false (by omega)
  clear c8
  by_cases c10 : (l0_2.length : Int) > 120
  ·rw [if_pos c10] at H
   have c10b0 : decide (120 < (l0_2.length : Int)) = true := decide_eq_true c10
   have c10b1 : decide (120 < l0_2.length) = true := decide_eq_true (by omega)
   clear c10
   have H' := Aside0.mk H
   clear H
   have hcz11_0 : w3.cell? ⟨gb238, 0, none⟩ = some (.slice A0_0 l0_0.length c0_0) := (kC BK238.out 0).trans rfl
   have hcz11_1 : w3.cell? ⟨gb238, 1, none⟩ = some (.slice A0_1 l0_1.length c0_1) := (kC BK238.out 1).trans rfl
   have hcz11_2 : w3.cell? ⟨gb238, 2, none⟩ = some (.slice A0_2 l0_2.length c0_2) := (kC BK238.out 2).trans rfl
   have hcz11_3 : w3.cell? ⟨gb238, 3, none⟩ = some (.int .i64 a0_3) := (kC BK238.out 3).trans rfl
   have hfz11_0 := kF BK238.out 0
   have hfz11_1 := kF BK238.out 1
   have hfz11_2 := kF BK238.out 2
   have hfz11_3 := kF BK238.out 3
   go_wp2
   go_meet
   case rel => exact ⟨_, (true), (by first | rfl | (simp; done) | (simp [*]; done)), H', ⟨by first | omega | exact Nat.le_refl _⟩, ⟨by (with_reducible repeat (first | refine kN ?_ _ | refine kD ?_ | refine kA ?_ _)); exact BK238.out⟩, ⟨by repeat (first | (with_reducible first | exact HB.out | apply bA | apply bN | apply bD | refine bS ?_ GE238.out) | exact HB.out)⟩⟩
  rw [if_neg c10] at H
  have c10b0 : decide (120 < (l0_2.length : Int)) = false := decide_eq_false c10
  have c10b1 : decide (120 < l0_2.length) = false := decide_eq_false (by omega)
  clear c10
  by_cases c12 : a0_3 < 0
  ·rw [if_pos c12] at H
   have c12b0 : decide (a0_3 < 0) = true := decide_eq_true c12
   clear c12
   have H' := Aside0.mk H
   clear H
   have hcz13_0 : w3.cell? ⟨gb238, 0, none⟩ = some (.slice A0_0 l0_0.length c0_0) := (kC BK238.out 0).trans rfl
   have hcz13_1 : w3.cell? ⟨gb238, 1, none⟩ = some (.slice A0_1 l0_1.length c0_1) := (kC BK238.out 1).trans rfl
   have hcz13_2 : w3.cell? ⟨gb238, 2, none⟩ = some (.slice A0_2 l0_2.length c0_2) := (kC BK238.out 2).trans rfl
   have hcz13_3 : w3.cell? ⟨gb238, 3, none⟩ = some (.int .i64 a0_3) := (kC BK238.out 3).trans rfl
   have hfz13_0 := kF BK238.out 0
   have hfz13_1 := kF BK238.out 1
   have hfz13_2 := kF BK238.out 2
   have hfz13_3 := kF BK238.out 3
   go_wp2
   go_meet
   case rel => exact ⟨_, (true), (by first | rfl | (simp; done) | (simp [*]; done)), H', ⟨by first | omega | exact Nat.le_refl _⟩, ⟨by (with_reducible repeat (first | refine kN ?_ _ | refine kD ?_ | refine kA ?_ _)); exact BK238.out⟩, ⟨by repeat (first | (with_reducible first | exact HB.out | apply bA | apply bN | apply bD | refine bS ?_ GE238.out) | exact HB.out)⟩⟩
  rw [if_neg c12] at H
  have c12b0 : decide (a0_3 < 0) = false := decide_eq_false c12
  clear c12
  have H' := Aside0.mk H
  clear H
  have hcz14_0 : w3.cell? ⟨gb238, 0, none⟩ = some (.slice A0_0 l0_0.length c0_0) := (kC BK238.out 0).trans rfl
  have hcz14_1 : w3.cell? ⟨gb238, 1, none⟩ = some (.slice A0_1 l0_1.length c0_1) := (kC BK238.out 1).trans rfl
  have hcz14_2 : w3.cell? ⟨gb238, 2, none⟩ = some (.slice A0_2 l0_2.length c0_2) := (kC BK238.out 2).trans rfl
  have hcz14_3 : w3.cell? ⟨gb238, 3, none⟩ = some (.int .i64 a0_3) := (kC BK238.out 3).trans rfl
  have hfz14_0 := kF BK238.out 0
  have hfz14_1 := kF BK238.out 1
  have hfz14_2 := kF BK238.out 2
  have hfz14_3 := kF BK238.out 3
  go_wp2
  go_meet
  case rel => exact ⟨_, (decide (a0_3 > 60)), (by first | rfl | (simp; done) | (simp [*]; done)), H', ⟨by first | omega | exact Nat.le_refl _⟩, ⟨by (with_reducible repeat (first | refine kN ?_ _ | refine kD ?_ | refine kA ?_ _)); exact BK238.out⟩, ⟨by repeat (first | (with_reducible first | exact HB.out | apply bA | apply bN | apply bD | refine bS ?_ GE238.out) | exact HB.out)⟩⟩
 case rest =>
  clear HC2
  obtain ⟨kq, x40_1, rfl, HA, HJ1, BK238, HB⟩ := hcut
  cases kq with
  | zero => exact absurd HA.out (by simp [zM.j0])
  | succ kj1 =>
   have H := HA.out
   clear HA
   simp only [zM.j0] at H
   by_cases c15 : x40_1 = true
   ·subst c15
    have H1 : (some false) = some r := by rw [if_pos rfl] at H; exact H
    clear H
    have H := H1
    clear H1
    obtain rfl := Option.some.inj H
    go_wp2
    go_ret
    exact ⟨by first | rfl | (simp [wN, wS] <;> rfl) | (simp [*, wN, wS] <;> rfl), by repeat (first | (with_reducible first | exact HB.out | apply bA | apply bN | apply bD | refine bS ?_ GE238.out) | exact HB.out)⟩
   replace c15 := Bool.eq_false_iff.mpr c15
   subst c15
   have H1 : (zM.l0 kj1 0 l0_0 l0_1 l0_2 a0_3) = some r := by rw [if_neg (show ¬ (false = true) by decide)] at H; exact H
   clear H
   have H := H1
   clear H1
   have H' := Aside0.mk H
   clear H
   go_wp2
   go_loopg [3] kj1 (fun kq v3 w' => ∃ (x3_2 : Int), v3 = .int .i64 x3_2 ∧ Aside0 (zM.l0 kq x3_2 l0_0 l0_1 l0_2 a0_3 = some r) ∧ Aside0 (kq ≤ kj1) ∧ Aside0 (w'.heap[gb238]? = some (.cells #[(.slice A0_0 l0_0.length c0_0), (.slice A0_1 l0_1.length c0_1), (.slice A0_2 l0_2.length c0_2), .int .i64 a0_3] 26 (0, 0))) ∧ Aside0 (Below w.heap.size w w'))
   case atStart => exact ⟨(0), (by first | rfl | (simp; done) | (simp [*]; done)), H', ⟨Nat.le_refl _⟩, ⟨by (with_reducible repeat (first | refine kN ?_ _ | refine kD ?_ | refine kA ?_ _)); exact BK238.out⟩, ⟨by repeat (first | (with_reducible first | exact HB.out | apply bA | apply bN | apply bD | refine bS ?_ GE238.out) | exact HB.out)⟩⟩
   case round =>
    clear H'
    obtain ⟨x3_2, rfl, HA, HK2, BK238, HB⟩ := hrel
    cases gk with
    | zero => exact absurd HA.out (by simp [zM.l0])
    | succ k2 =>
     have H := HA.out
     clear HA
     simp only [zM.l0] at H
     by_cases c16 : x3_2 < (l0_1.length : Int)
     ·rw [if_pos c16] at H
      have c16b0 : decide (x3_2 < (l0_1.length : Int)) = true := decide_eq_true c16
      clear c16
      by_cases c17 : 0 ≤ x3_2
      ·rw [if_pos c17] at H
       have c17b0 : decide (0 ≤ x3_2) = true := decide_eq_true c17
       clear c17
       by_cases c18 : (rd l0_1 x3_2) < (-4611686018427387904)
       ·rw [if_pos c18] at H
        have c18b0 : decide ((rd l0_1 x3_2) < (-4611686018427387904)) = true := decide_eq_true c18
        clear c18
        obtain rfl := Option.some.inj H
        have hcz19_0 : wr.cell? ⟨gb238, 0, none⟩ = some (.slice A0_0 l0_0.length c0_0) := (kC BK238.out 0).trans rfl
        have hcz19_1 : wr.cell? ⟨gb238, 1, none⟩ = some (.slice A0_1 l0_1.length c0_1) := (kC BK238.out 1).trans rfl
        have hcz19_2 : wr.cell? ⟨gb238, 2, none⟩ = some (.slice A0_2 l0_2.length c0_2) := (kC BK238.out 2).trans rfl
        have hcz19_3 : wr.cell? ⟨gb238, 3, none⟩ = some (.int .i64 a0_3) := (kC BK238.out 3).trans rfl
        have hfz19_0 := kF BK238.out 0
        have hfz19_1 := kF BK238.out 1
        have hfz19_2 := kF BK238.out 2
        have hfz19_3 := kF BK238.out 3
        have p239 : 0 ≤ (x3_2 : Int) := of_decide_eq_true (by first | (with_reducible assumption) | assumption)
        have q239 : x3_2 < (l0_1.length : Int) := of_decide_eq_true (by first | (with_reducible assumption) | assumption)
        obtain ⟨ad239, e239, hx239_0⟩ := Kd.at_int HR0_1.out x3_2 p239 q239
        cases e239
        replace hx239_0 := (HB.out.cell (World.block_lt_of_cell? w _ hx239_0)).trans hx239_0
        replace p239 := eq_true p239
        replace q239 := eq_true q239
        go_wp2
        go_ret
        exact ⟨by first | rfl | (simp [wN, wS] <;> rfl) | (simp [*, wN, wS] <;> rfl), by repeat (first | (with_reducible first | exact HB.out | apply bA | apply bN | apply bD | refine bS ?_ GE238.out) | exact HB.out)⟩
       rw [if_neg c18] at H
       have c18b0 : decide ((rd l0_1 x3_2) < (-4611686018427387904)) = false := decide_eq_false c18
       clear c18
       by_cases c20 : (rd l0_1 x3_2) > 4611686018427387903
       ·rw [if_pos c20] at H
        have c20b0 : decide (4611686018427387903 < (rd l0_1 x3_2)) = true := decide_eq_true c20
        clear c20
        obtain rfl := Option.some.inj H
        have hcz21_0 : wr.cell? ⟨gb238, 0, none⟩ = some (.slice A0_0 l0_0.length c0_0) := (kC BK238.out 0).trans rfl
        have hcz21_1 : wr.cell? ⟨gb238, 1, none⟩ = some (.slice A0_1 l0_1.length c0_1) := (kC BK238.out 1).trans rfl
        have hcz21_2 : wr.cell? ⟨gb238, 2, none⟩ = some (.slice A0_2 l0_2.length c0_2) := (kC BK238.out 2).trans rfl
        have hcz21_3 : wr.cell? ⟨gb238, 3, none⟩ = some (.int .i64 a0_3) := (kC BK238.out 3).trans rfl
        have hfz21_0 := kF BK238.out 0
        have hfz21_1 := kF BK238.out 1
        have hfz21_2 := kF BK238.out 2
        have hfz21_3 := kF BK238.out 3
        have p239 : 0 ≤ (x3_2 : Int) := of_decide_eq_true (by first | (with_reducible assumption) | assumption)
        have q239 : x3_2 < (l0_1.length : Int) := of_decide_eq_true (by first | (with_reducible assumption) | assumption)
        obtain ⟨ad239, e239, hx239_0⟩ := Kd.at_int HR0_1.out x3_2 p239 q239
        cases e239
        replace hx239_0 := (HB.out.cell (World.block_lt_of_cell? w _ hx239_0)).trans hx239_0
        replace p239 := eq_true p239
        replace q239 := eq_true q239
        have p240 : 0 ≤ (x3_2 : Int) := of_decide_eq_true (by first | (with_reducible assumption) | assumption)
        have q240 : x3_2 < (l0_1.length : Int) := of_decide_eq_true (by first | (with_reducible assumption) | assumption)
        obtain ⟨ad240, e240, hx240_0⟩ := Kd.at_int HR0_1.out x3_2 p240 q240
        obtain rfl : ad239 = ad240 := (by injection e240)
        replace hx240_0 := (HB.out.cell (World.block_lt_of_cell? w _ hx240_0)).trans hx240_0
        replace p240 := eq_true p240
        replace q240 := eq_true q240
        go_wp2
        go_ret
        exact ⟨by first | rfl | (simp [wN, wS] <;> rfl) | (simp [*, wN, wS] <;> rfl), by repeat (first | (with_reducible first | exact HB.out | apply bA | apply bN | apply bD | refine bS ?_ GE238.out) | exact HB.out)⟩
       rw [if_neg c20] at H
       have c20b0 : decide (4611686018427387903 < (rd l0_1 x3_2)) = false := decide_eq_false c20
       clear c20
       have H' := Aside0.mk H
       clear H
       have hcz22_0 : wr.cell? ⟨gb238, 0, none⟩ = some (.slice A0_0 l0_0.length c0_0) := (kC BK238.out 0).trans rfl
       have hcz22_1 : wr.cell? ⟨gb238, 1, none⟩ = some (.slice A0_1 l0_1.length c0_1) := (kC BK238.out 1).trans rfl
       have hcz22_2 : wr.cell? ⟨gb238, 2, none⟩ = some (.slice A0_2 l0_2.length c0_2) := (kC BK238.out 2).trans rfl
       have hcz22_3 : wr.cell? ⟨gb238, 3, none⟩ = some (.int .i64 a0_3) := (kC BK238.out 3).trans rfl
       have hfz22_0 := kF BK238.out 0
       have hfz22_1 := kF BK238.out 1
       have hfz22_2 := kF BK238.out 2
       have hfz22_3 := kF BK238.out 3
       have p239 : 0 ≤ (x3_2 : Int) := of_decide_eq_true (by first | (with_reducible assumption) | assumption)
       have q239 : x3_2 < (l0_1.length : Int) := of_decide_eq_true (by first | (with_reducible assumption) | assumption)
       obtain ⟨ad239, e239, hx239_0⟩ := Kd.at_int HR0_1.out x3_2 p239 q239
       cases e239
       replace hx239_0 := (HB.out.cell (World.block_lt_of_cell? w _ hx239_0)).trans hx239_0
       replace p239 := eq_true p239
       replace q239 := eq_true q239
       have p240 : 0 ≤ (x3_2 : Int) := of_decide_eq_true (by first | (with_reducible assumption) | assumption)
       have q240 : x3_2 < (l0_1.length : Int) := of_decide_eq_true (by first | (with_reducible assumption) | assumption)
       obtain ⟨ad240, e240, hx240_0⟩ := Kd.at_int HR0_1.out x3_2 p240 q240
       obtain rfl : ad239 = ad240 := (by injection e240)
       replace hx240_0 := (HB.out.cell (World.block_lt_of_cell? w _ hx240_0)).trans hx240_0
       replace p240 := eq_true p240
       replace q240 := eq_true q240
       go_wp2
       go_roundg k2
       case measure => have := HJ1.out; have := HK2.out; omega
       case rel => exact ⟨(wrap64 (x3_2 + 1)), (by first | rfl | (simp; done) | (simp [*]; done)), H', ⟨by have := HJ1.out; have := HK2.out; omega⟩, ⟨by (with_reducible repeat (first | refine kN ?_ _ | refine kD ?_ | refine kA ?_ _)); exact BK238.out⟩, ⟨by repeat (first | (with_reducible first | exact HB.out | apply bA | apply bN | apply bD | refine bS ?_ GE238.out) | exact HB.out)⟩⟩
      rw [if_neg c17] at H
      exact absurd H (by simp)
     rw [if_neg c16] at H
     have c16b0 : decide (x3_2 < (l0_1.length : Int)) = false := decide_eq_false c16
     clear c16
     have H' := Aside0.mk H
     clear H
     have hcz23_0 : wr.cell? ⟨gb238, 0, none⟩ = some (.slice A0_0 l0_0.length c0_0) := (kC BK238.out 0).trans rfl
     have hcz23_1 : wr.cell? ⟨gb238, 1, none⟩ = some (.slice A0_1 l0_1.length c0_1) := (kC BK238.out 1).trans rfl
     have hcz23_2 : wr.cell? ⟨gb238, 2, none⟩ = some (.slice A0_2 l0_2.length c0_2) := (kC BK238.out 2).trans rfl
     have hcz23_3 : wr.cell? ⟨gb238, 3, none⟩ = some (.int .i64 a0_3) := (kC BK238.out 3).trans rfl
     have hfz23_0 := kF BK238.out 0
     have hfz23_1 := kF BK238.out 1
     have hfz23_2 := kF BK238.out 2
     have hfz23_3 := kF BK238.out 3
     go_wp2
     go_loopg [4] k2 (fun kq v4 w' => ∃ (x4_3 : Int), v4 = .int .i64 x4_3 ∧ Aside0 (zM.l1 kq x4_3 l0_0 l0_1 l0_2 a0_3 = some r) ∧ Aside0 (kq ≤ k2) ∧ Aside0 (w'.heap[gb238]? = some (.cells #[(.slice A0_0 l0_0.length c0_0), (.slice A0_1 l0_1.length c0_1), (.slice A0_2 l0_2.length c0_2), .int .i64 a0_3] 26 (0, 0))) ∧ Aside0 (Below w.heap.size w w'))
     case atStart => exact ⟨(0), (by first | rfl | (simp; done) | (simp [*]; done)), H', ⟨Nat.le_refl _⟩, ⟨by (with_reducible repeat (first | refine kN ?_ _ | refine kD ?_ | refine kA ?_ _)); exact BK238.out⟩, ⟨by repeat (first | (with_reducible first | exact HB.out | apply bA | apply bN | apply bD | refine bS ?_ GE238.out) | exact HB.out)⟩⟩
     case round =>
      clear H'
      try clear c16b0
      try clear hcz23_0
      try clear hcz23_1
      try clear hcz23_2
      try clear hcz23_3
      try clear hfz23_0
      try clear hfz23_1
      try clear hfz23_2
      try clear hfz23_3
      obtain ⟨x4_3, rfl, HA, HK3, BK238, HB⟩ := hrel
      cases gk with
      | zero => exact absurd HA.out (by simp [zM.l1])
      | succ k3 =>
       have H := HA.out
       clear HA
       simp only [zM.l1] at H
       by_cases c24 : x4_3 < (l0_2.length : Int)
       ·rw [if_pos c24] at H
        have c24b0 : decide (x4_3 < (l0_2.length : Int)) = true := decide_eq_true c24
        clear c24
        by_cases c25 : 0 ≤ x4_3
        ·rw [if_pos c25] at H
         have c25b0 : decide (0 ≤ x4_3) = true := decide_eq_true c25
         clear c25
         by_cases c26 : ((rdOf ByteArray.empty l0_2 x4_3).size : Int) > 60
         ·rw [if_pos c26] at H
          have c26b0 : decide (60 < ((rdOf ByteArray.empty l0_2 x4_3).size : Int)) = true := decide_eq_true c26
          have c26b1 : decide (60 < (rdOf ByteArray.empty l0_2 x4_3).size) = true := decide_eq_true (by omega)
          clear c26
          obtain rfl := Option.some.inj H
          have hcz27_0 : wr.cell? ⟨gb238, 0, none⟩ = some (.slice A0_0 l0_0.length c0_0) := (kC BK238.out 0).trans rfl
          have hcz27_1 : wr.cell? ⟨gb238, 1, none⟩ = some (.slice A0_1 l0_1.length c0_1) := (kC BK238.out 1).trans rfl
          have hcz27_2 : wr.cell? ⟨gb238, 2, none⟩ = some (.slice A0_2 l0_2.length c0_2) := (kC BK238.out 2).trans rfl
          have hcz27_3 : wr.cell? ⟨gb238, 3, none⟩ = some (.int .i64 a0_3) := (kC BK238.out 3).trans rfl
          have hfz27_0 := kF BK238.out 0
          have hfz27_1 := kF BK238.out 1
          have hfz27_2 := kF BK238.out 2
          have hfz27_3 := kF BK238.out 3
          have p241 : 0 ≤ (x4_3 : Int) := of_decide_eq_true (by first | (with_reducible assumption) | assumption)
          have q241 : x4_3 < (l0_2.length : Int) := of_decide_eq_true (by first | (with_reducible assumption) | assumption)
          obtain ⟨ad241, e241, hx241_0⟩ := Kd.at_string HR0_2.out x4_3 p241 q241
          cases e241
          replace hx241_0 := (HB.out.cell (World.block_lt_of_cell? w _ hx241_0)).trans hx241_0
          replace p241 := eq_true p241
          replace q241 := eq_true q241
          go_wp2
          go_ret
          exact ⟨by first | rfl | (simp [wN, wS] <;> rfl) | (simp [*, wN, wS] <;> rfl), by repeat (first | (with_reducible first | exact HB.out | apply bA | apply bN | apply bD | refine bS ?_ GE238.out) | exact HB.out)⟩
         rw [if_neg c26] at H
         have c26b0 : decide (60 < ((rdOf ByteArray.empty l0_2 x4_3).size : Int)) = false := decide_eq_false c26
         have c26b1 : decide (60 < (rdOf ByteArray.empty l0_2 x4_3).size) = false := decide_eq_false (by omega)
         clear c26
         have H' := Aside0.mk H
         clear H
         have hcz28_0 : wr.cell? ⟨gb238, 0, none⟩ = some (.slice A0_0 l0_0.length c0_0) := (kC BK238.out 0).trans rfl
         have hcz28_1 : wr.cell? ⟨gb238, 1, none⟩ = some (.slice A0_1 l0_1.length c0_1) := (kC BK238.out 1).trans rfl
         have hcz28_2 : wr.cell? ⟨gb238, 2, none⟩ = some (.slice A0_2 l0_2.length c0_2) := (kC BK238.out 2).trans rfl
         have hcz28_3 : wr.cell? ⟨gb238, 3, none⟩ = some (.int .i64 a0_3) := (kC BK238.out 3).trans rfl
         have hfz28_0 := kF BK238.out 0
         have hfz28_1 := kF BK238.out 1
         have hfz28_2 := kF BK238.out 2
         have hfz28_3 := kF BK238.out 3
         have p241 : 0 ≤ (x4_3 : Int) := of_decide_eq_true (by first | (with_reducible assumption) | assumption)
         have q241 : x4_3 < (l0_2.length : Int) := of_decide_eq_true (by first | (with_reducible assumption) | assumption)
         obtain ⟨ad241, e241, hx241_0⟩ := Kd.at_string HR0_2.out x4_3 p241 q241
         cases e241
         replace hx241_0 := (HB.out.cell (World.block_lt_of_cell? w _ hx241_0)).trans hx241_0
         replace p241 := eq_true p241
         replace q241 := eq_true q241
         go_wp2
         go_roundg k3
         case measure => have := HJ1.out; have := HK2.out; have := HK3.out; omega
         case rel => exact ⟨(wrap64 (x4_3 + 1)), (by first | rfl | (simp; done) | (simp [*]; done)), H', ⟨by have := HJ1.out; have := HK2.out; have := HK3.out; omega⟩, ⟨by (with_reducible repeat (first | refine kN ?_ _ | refine kD ?_ | refine kA ?_ _)); exact BK238.out⟩, ⟨by repeat (first | (with_reducible first | exact HB.out | apply bA | apply bN | apply bD | refine bS ?_ GE238.out) | exact HB.out)⟩⟩
        rw [if_neg c25] at H
        exact absurd H (by simp)
       rw [if_neg c24] at H
       have c24b0 : decide (x4_3 < (l0_2.length : Int)) = false := decide_eq_false c24
       clear c24
       have H' := Aside0.mk H
       clear H
       have hcz29_0 : wr.cell? ⟨gb238, 0, none⟩ = some (.slice A0_0 l0_0.length c0_0) := (kC BK238.out 0).trans rfl
       have hcz29_1 : wr.cell? ⟨gb238, 1, none⟩ = some (.slice A0_1 l0_1.length c0_1) := (kC BK238.out 1).trans rfl
       have hcz29_2 : wr.cell? ⟨gb238, 2, none⟩ = some (.slice A0_2 l0_2.length c0_2) := (kC BK238.out 2).trans rfl
       have hcz29_3 : wr.cell? ⟨gb238, 3, none⟩ = some (.int .i64 a0_3) := (kC BK238.out 3).trans rfl
       have hfz29_0 := kF BK238.out 0
       have hfz29_1 := kF BK238.out 1
       have hfz29_2 := kF BK238.out 2
       have hfz29_3 := kF BK238.out 3
       go_wp2
       go_loopg [5] k3 (fun kq v5 w' => ∃ (x5_4 : Int), v5 = .int .i64 x5_4 ∧ Aside0 (zM.l2 kq x5_4 l0_0 l0_1 l0_2 a0_3 = some r) ∧ Aside0 (kq ≤ k3) ∧ Aside0 (w'.heap[gb238]? = some (.cells #[(.slice A0_0 l0_0.length c0_0), (.slice A0_1 l0_1.length c0_1), (.slice A0_2 l0_2.length c0_2), .int .i64 a0_3] 26 (0, 0))) ∧ Aside0 (Below w.heap.size w w'))
       case atStart => exact ⟨(0), (by first | rfl | (simp; done) | (simp [*]; done)), H', ⟨Nat.le_refl _⟩, ⟨by (with_reducible repeat (first | refine kN ?_ _ | refine kD ?_ | refine kA ?_ _)); exact BK238.out⟩, ⟨by repeat (first | (with_reducible first | exact HB.out | apply bA | apply bN | apply bD | refine bS ?_ GE238.out) | exact HB.out)⟩⟩
       case round =>
        clear H'
        try clear c24b0
        try clear hcz29_0
        try clear hcz29_1
        try clear hcz29_2
        try clear hcz29_3
        try clear hfz29_0
        try clear hfz29_1
        try clear hfz29_2
        try clear hfz29_3
        obtain ⟨x5_4, rfl, HA, HK4, BK238, HB⟩ := hrel
        cases gk with
        | zero => exact absurd HA.out (by simp [zM.l2])
        | succ k4 =>
         have H := HA.out
         clear HA
         simp only [zM.l2] at H
         by_cases c30 : x5_4 < (l0_0.length : Int)
         ·rw [if_pos c30] at H
          have c30b0 : decide (x5_4 < (l0_0.length : Int)) = true := decide_eq_true c30
          clear c30
          by_cases c31 : 0 ≤ x5_4
          ·rw [if_pos c31] at H
           have c31b0 : decide (0 ≤ x5_4) = true := decide_eq_true c31
           clear c31
           have HC32 := Aside0.mk H
           clear H
           have hcz33_0 : wr.cell? ⟨gb238, 0, none⟩ = some (.slice A0_0 l0_0.length c0_0) := (kC BK238.out 0).trans rfl
           have hcz33_1 : wr.cell? ⟨gb238, 1, none⟩ = some (.slice A0_1 l0_1.length c0_1) := (kC BK238.out 1).trans rfl
           have hcz33_2 : wr.cell? ⟨gb238, 2, none⟩ = some (.slice A0_2 l0_2.length c0_2) := (kC BK238.out 2).trans rfl
           have hcz33_3 : wr.cell? ⟨gb238, 3, none⟩ = some (.int .i64 a0_3) := (kC BK238.out 3).trans rfl
           have hfz33_0 := kF BK238.out 0
           have hfz33_1 := kF BK238.out 1
           have hfz33_2 := kF BK238.out 2
           have hfz33_3 := kF BK238.out 3
           have p242 : 0 ≤ (x5_4 : Int) := of_decide_eq_true (by first | (with_reducible assumption) | assumption)
           have q242 : x5_4 < (l0_0.length : Int) := of_decide_eq_true (by first | (with_reducible assumption) | assumption)
           obtain ⟨ad242, A242_3, c242_3, e242, hx242_0, hx242_1, hx242_2, hx242_3, hl242_3, hi242_3⟩ := at_T40 HR0_0.out x5_4 p242 q242
           cases e242
           replace hx242_0 := (HB.out.cell (World.block_lt_of_cell? w _ hx242_0)).trans hx242_0
           replace hx242_1 := (HB.out.cell (World.block_lt_of_cell? w _ hx242_1)).trans hx242_1
           replace hx242_2 := (HB.out.cell (World.block_lt_of_cell? w _ hx242_2)).trans hx242_2
           replace hx242_3 := (HB.out.cell (World.block_lt_of_cell? w _ hx242_3)).trans hx242_3
           have HR242_3 := Aside0.mk hi242_3
           have HC242_3 := Aside0.mk hl242_3
           clear hi242_3 hl242_3
           replace p242 := eq_true p242
           replace q242 := eq_true q242
           go_upto_region 17 with (first | ((with_reducible refine gate_dst (N := 6) rfl ?_); (try (refine gate_guard (by rfl) ?_; dsimp only)); refine box_event ?hg (N := 6) ?hd (cs := #[.int .i64 0, .int .i64 0, .int .i64 0, .slice none 0 0]) (t := 40) ?hr ?_; (case hd => rfl); (case hg => rfl); (case hr => first | (go_simp; done) | (go_simp; rfl)); intro gb243 hg w34 hbox hb; have n0_ := Aside0.mk (kB (g := gb238) (o := .cells #[.slice (some ad242) l0_0.length c0_0, .slice A0_1 l0_1.length c0_1, .slice A0_2 l0_2.length c0_2, .int .i64 a0_3] 26 (0, 0)) (by (with_reducible repeat (first | refine kN ?_ _ | refine kD ?_ | refine kA ?_ _)); exact BK238.out) hb); have n1_ := Aside0.mk (bT (by repeat (first | (with_reducible first | exact HB.out | apply bA | apply bN | apply bD | refine bS ?_ GE238.out) | exact HB.out)) hb); have n2_ := Aside0.mk (hbox); have n3_ := Aside0.mk ((by rw [hg]; exact (bZ (by repeat (first | (with_reducible first | exact HB.out | apply bA | apply bN | apply bD | refine bS ?_ GE238.out) | exact HB.out))) : w.heap.size ≤ gb243)); have n4_ := Aside0.mk ((by rw [hg]; exact (bZ (by repeat (first | (with_reducible first | exact HB.out | apply bA | apply bN | apply bD | refine bS ?_ GE238.out) | exact HB.out))) : w.heap.size ≤ gb243)); have n5_ := Aside0.mk ((by rw [hg]; exact Nat.ne_of_lt (blk_lt (g := gb238) (o := .cells #[.slice (some ad242) l0_0.length c0_0, .slice A0_1 l0_1.length c0_1, .slice A0_2 l0_2.length c0_2, .int .i64 a0_3] 26 (0, 0)) (by (with_reducible repeat (first | refine kN ?_ _ | refine kD ?_ | refine kA ?_ _)); exact BK238.out)) : gb238 ≠ gb243)); have n6_ := Aside0.mk ((by rw [hg]; exact Nat.ne_of_gt (blk_lt (g := gb238) (o := .cells #[.slice (some ad242) l0_0.length c0_0, .slice A0_1 l0_1.length c0_1, .slice A0_2 l0_2.length c0_2, .int .i64 a0_3] 26 (0, 0)) (by (with_reducible repeat (first | refine kN ?_ _ | refine kD ?_ | refine kA ?_ _)); exact BK238.out)) : gb243 ≠ gb238)); clear BK238; clear HB; have BK238 := n0_; have HB := n1_; have BK243 := n2_; have GW243 := n3_; have GE243 := n4_; have NB238_243 := n5_; have NB243_238 := n6_; clear n0_ n1_ n2_ n3_ n4_ n5_ n6_; clear hb hbox hg; have hnb35 := NB243_238.out; have hnc35 := NB238_243.out; have hcz36_0 : w34.cell? ⟨gb243, 0, none⟩ = some (.int .i64 0) := (kC BK243.out 0).trans rfl; have hcz36_1 : w34.cell? ⟨gb243, 1, none⟩ = some (.int .i64 0) := (kC BK243.out 1).trans rfl; have hcz36_2 : w34.cell? ⟨gb243, 2, none⟩ = some (.int .i64 0) := (kC BK243.out 2).trans rfl; have hcz36_3 : w34.cell? ⟨gb243, 3, none⟩ = some (.slice none 0 0) := (kC BK243.out 3).trans rfl; have hfz36_0 := kF BK243.out 0; have hfz36_1 := kF BK243.out 1; have hfz36_2 := kF BK243.out 2; have hfz36_3 := kF BK243.out 3))
           (try simp only [Act.put, List.setIfInBounds_toArray, List.set_cons_zero, List.set_cons_succ])
           go_cut [127] (fun v127 wc => ∃ (kq : Nat) (x127_31 : Bool), v127 = .bool x127_31 ∧ Aside0 (zM.j4 kq x5_4 x127_31 l0_0 l0_1 l0_2 a0_3 ((r40 l0_0 x5_4).f0) ((r40 l0_0 x5_4).f1) ((r40 l0_0 x5_4).f2) ((r40 l0_0 x5_4).f3) = some r) ∧ Aside0 (kq ≤ k4) ∧ Aside0 (wc.heap[gb238]? = some (.cells #[(.slice (some ad242) l0_0.length c0_0), (.slice A0_1 l0_1.length c0_1), (.slice A0_2 l0_2.length c0_2), .int .i64 a0_3] 26 (0, 0))) ∧ Aside0 (wc.heap[gb243]? = some (.cells #[.int .i64 ((r40 l0_0 x5_4).f0), .int .i64 ((r40 l0_0 x5_4).f1), .int .i64 ((r40 l0_0 x5_4).f2), (.slice A242_3 ((r40 l0_0 x5_4).f3).length c242_3)] 40 (0, 0))) ∧ Aside0 (Below w.heap.size w wc))
           case first =>
            have H := HC32.out
            clear HC32
            by_cases c37 : ((r40 l0_0 x5_4).f0) < 0
            ·rw [if_pos c37] at H
             have c37b0 : decide (((r40 l0_0 x5_4).f0) < 0) = true := decide_eq_true c37
             clear c37
             (first | rw [c37b0] | (simp only [i64_w, i32_w]; rw [c37b0]) | skip)
             have H' := Aside0.mk H
             clear H
             have hnb38 := NB243_238.out
             have hnc38 := NB238_243.out
             have hcz39_0 : w34.cell? ⟨gb243, 0, none⟩ = some (.int .i64 0) := (kC BK243.out 0).trans rfl
             have hcz39_1 : w34.cell? ⟨gb243, 1, none⟩ = some (.int .i64 0) := (kC BK243.out 1).trans rfl
             have hcz39_2 : w34.cell? ⟨gb243, 2, none⟩ = some (.int .i64 0) := (kC BK243.out 2).trans rfl
             have hcz39_3 : w34.cell? ⟨gb243, 3, none⟩ = some (.slice none 0 0) := (kC BK243.out 3).trans rfl
             have hfz39_0 := kF BK243.out 0
             have hfz39_1 := kF BK243.out 1
             have hfz39_2 := kF BK243.out 2
             have hfz39_3 := kF BK243.out 3
             go_wp2
             go_meet
             case rel => exact ⟨_, (true), (by first | rfl | (simp; done) | (simp [*]; done)), H', ⟨by have := HJ1.out; have := HK2.out; have := HK3.out; have := HK4.out; first | omega | exact Nat.le_refl _⟩, ⟨by (with_reducible repeat (first | refine kN ?_ _ | refine kD ?_ | refine kA ?_ _)); refine blk_far ?_ NB238_243.out _; (with_reducible repeat (first | refine kN ?_ _ | refine kD ?_ | refine kA ?_ _)); refine blk_far ?_ NB238_243.out _; (with_reducible repeat (first | refine kN ?_ _ | refine kD ?_ | refine kA ?_ _)); refine blk_far ?_ NB238_243.out _; (with_reducible repeat (first | refine kN ?_ _ | refine kD ?_ | refine kA ?_ _)); refine blk_far ?_ NB238_243.out _; (with_reducible repeat (first | refine kN ?_ _ | refine kD ?_ | refine kA ?_ _)); exact BK238.out⟩, ⟨by (with_reducible repeat (first | refine kN ?_ _ | refine kD ?_ | refine kA ?_ _)); refine kP (cs := #[.int .i64 ((r40 l0_0 x5_4).f0), .int .i64 ((r40 l0_0 x5_4).f1), .int .i64 ((r40 l0_0 x5_4).f2), .slice none 0 0]) ?_ 3 _ rfl; (with_reducible repeat (first | refine kN ?_ _ | refine kD ?_ | refine kA ?_ _)); refine kP (cs := #[.int .i64 ((r40 l0_0 x5_4).f0), .int .i64 ((r40 l0_0 x5_4).f1), .int .i64 0, .slice none 0 0]) ?_ 2 _ rfl; (with_reducible repeat (first | refine kN ?_ _ | refine kD ?_ | refine kA ?_ _)); refine kP (cs := #[.int .i64 ((r40 l0_0 x5_4).f0), .int .i64 0, .int .i64 0, .slice none 0 0]) ?_ 1 _ rfl; (with_reducible repeat (first | refine kN ?_ _ | refine kD ?_ | refine kA ?_ _)); refine kP (cs := #[.int .i64 0, .int .i64 0, .int .i64 0, .slice none 0 0]) ?_ 0 _ rfl; (with_reducible repeat (first | refine kN ?_ _ | refine kD ?_ | refine kA ?_ _)); exact BK243.out⟩, ⟨by repeat (first | (with_reducible first | exact HB.out | apply bA | apply bN | apply bD | refine bS ?_ GE238.out | refine bS ?_ GE243.out) | exact HB.out)⟩⟩
            rw [if_neg c37] at H
            have c37b0 : decide (((r40 l0_0 x5_4).f0) < 0) = false := decide_eq_false c37
            clear c37
            (first | rw [c37b0] | (simp only [i64_w, i32_w]; rw [c37b0]) | skip)
            by_cases c40 : ((r40 l0_0 x5_4).f0) > 59
            ·rw [if_pos c40] at H
             have c40b0 : decide (59 < ((r40 l0_0 x5_4).f0)) = true := decide_eq_true c40
             clear c40
             have H' := Aside0.mk H
             clear H
             have hnb41 := NB243_238.out
             have hnc41 := NB238_243.out
             have hcz42_0 : w34.cell? ⟨gb243, 0, none⟩ = some (.int .i64 0) := (kC BK243.out 0).trans rfl
             have hcz42_1 : w34.cell? ⟨gb243, 1, none⟩ = some (.int .i64 0) := (kC BK243.out 1).trans rfl
             have hcz42_2 : w34.cell? ⟨gb243, 2, none⟩ = some (.int .i64 0) := (kC BK243.out 2).trans rfl
             have hcz42_3 : w34.cell? ⟨gb243, 3, none⟩ = some (.slice none 0 0) := (kC BK243.out 3).trans rfl
             have hfz42_0 := kF BK243.out 0
             have hfz42_1 := kF BK243.out 1
             have hfz42_2 := kF BK243.out 2
             have hfz42_3 := kF BK243.out 3
             go_wp2
             go_meet
             case rel => exact ⟨_, (true), (by first | rfl | (simp; done) | (simp [*]; done)), H', ⟨by have := HJ1.out; have := HK2.out; have := HK3.out; have := HK4.out; first | omega | exact Nat.le_refl _⟩, ⟨by (with_reducible repeat (first | refine kN ?_ _ | refine kD ?_ | refine kA ?_ _)); refine blk_far ?_ NB238_243.out _; (with_reducible repeat (first | refine kN ?_ _ | refine kD ?_ | refine kA ?_ _)); refine blk_far ?_ NB238_243.out _; (with_reducible repeat (first | refine kN ?_ _ | refine kD ?_ | refine kA ?_ _)); refine blk_far ?_ NB238_243.out _; (with_reducible repeat (first | refine kN ?_ _ | refine kD ?_ | refine kA ?_ _)); refine blk_far ?_ NB238_243.out _; (with_reducible repeat (first | refine kN ?_ _ | refine kD ?_ | refine kA ?_ _)); exact BK238.out⟩, ⟨by (with_reducible repeat (first | refine kN ?_ _ | refine kD ?_ | refine kA ?_ _)); refine kP (cs := #[.int .i64 ((r40 l0_0 x5_4).f0), .int .i64 ((r40 l0_0 x5_4).f1), .int .i64 ((r40 l0_0 x5_4).f2), .slice none 0 0]) ?_ 3 _ rfl; (with_reducible repeat (first | refine kN ?_ _ | refine kD ?_ | refine kA ?_ _)); refine kP (cs := #[.int .i64 ((r40 l0_0 x5_4).f0), .int .i64 ((r40 l0_0 x5_4).f1), .int .i64 0, .slice none 0 0]) ?_ 2 _ rfl; (with_reducible repeat (first | refine kN ?_ _ | refine kD ?_ | refine kA ?_ _)); refine kP (cs := #[.int .i64 ((r40 l0_0 x5_4).f0), .int .i64 0, .int .i64 0, .slice none 0 0]) ?_ 1 _ rfl; (with_reducible repeat (first | refine kN ?_ _ | refine kD ?_ | refine kA ?_ _)); refine kP (cs := #[.int .i64 0, .int .i64 0, .int .i64 0, .slice none 0 0]) ?_ 0 _ rfl; (with_reducible repeat (first | refine kN ?_ _ | refine kD ?_ | refine kA ?_ _)); exact BK243.out⟩, ⟨by repeat (first | (with_reducible first | exact HB.out | apply bA | apply bN | apply bD | refine bS ?_ GE238.out | refine bS ?_ GE243.out) | exact HB.out)⟩⟩
            rw [if_neg c40] at H
            have c40b0 : decide (59 < ((r40 l0_0 x5_4).f0)) = false := decide_eq_false c40
            clear c40
            by_cases c43 : ((r40 l0_0 x5_4).f1) < 0
            ·rw [if_pos c43] at H
             have c43b0 : decide (((r40 l0_0 x5_4).f1) < 0) = true := decide_eq_true c43
             clear c43
             have H' := Aside0.mk H
             clear H
             have hnb44 := NB243_238.out
             have hnc44 := NB238_243.out
             have hcz45_0 : w34.cell? ⟨gb243, 0, none⟩ = some (.int .i64 0) := (kC BK243.out 0).trans rfl
             have hcz45_1 : w34.cell? ⟨gb243, 1, none⟩ = some (.int .i64 0) := (kC BK243.out 1).trans rfl
             have hcz45_2 : w34.cell? ⟨gb243, 2, none⟩ = some (.int .i64 0) := (kC BK243.out 2).trans rfl
             have hcz45_3 : w34.cell? ⟨gb243, 3, none⟩ = some (.slice none 0 0) := (kC BK243.out 3).trans rfl
             have hfz45_0 := kF BK243.out 0
             have hfz45_1 := kF BK243.out 1
             have hfz45_2 := kF BK243.out 2
             have hfz45_3 := kF BK243.out 3
             go_wp2
             go_meet
             case rel => exact ⟨_, (true), (by first | rfl | (simp; done) | (simp [*]; done)), H', ⟨by have := HJ1.out; have := HK2.out; have := HK3.out; have := HK4.out; first | omega | exact Nat.le_refl _⟩, ⟨by (with_reducible repeat (first | refine kN ?_ _ | refine kD ?_ | refine kA ?_ _)); refine blk_far ?_ NB238_243.out _; (with_reducible repeat (first | refine kN ?_ _ | refine kD ?_ | refine kA ?_ _)); refine blk_far ?_ NB238_243.out _; (with_reducible repeat (first | refine kN ?_ _ | refine kD ?_ | refine kA ?_ _)); refine blk_far ?_ NB238_243.out _; (with_reducible repeat (first | refine kN ?_ _ | refine kD ?_ | refine kA ?_ _)); refine blk_far ?_ NB238_243.out _; (with_reducible repeat (first | refine kN ?_ _ | refine kD ?_ | refine kA ?_ _)); exact BK238.out⟩, ⟨by (with_reducible repeat (first | refine kN ?_ _ | refine kD ?_ | refine kA ?_ _)); refine kP (cs := #[.int .i64 ((r40 l0_0 x5_4).f0), .int .i64 ((r40 l0_0 x5_4).f1), .int .i64 ((r40 l0_0 x5_4).f2), .slice none 0 0]) ?_ 3 _ rfl; (with_reducible repeat (first | refine kN ?_ _ | refine kD ?_ | refine kA ?_ _)); refine kP (cs := #[.int .i64 ((r40 l0_0 x5_4).f0), .int .i64 ((r40 l0_0 x5_4).f1), .int .i64 0, .slice none 0 0]) ?_ 2 _ rfl; (with_reducible repeat (first | refine kN ?_ _ | refine kD ?_ | refine kA ?_ _)); refine kP (cs := #[.int .i64 ((r40 l0_0 x5_4).f0), .int .i64 0, .int .i64 0, .slice none 0 0]) ?_ 1 _ rfl; (with_reducible repeat (first | refine kN ?_ _ | refine kD ?_ | refine kA ?_ _)); refine kP (cs := #[.int .i64 0, .int .i64 0, .int .i64 0, .slice none 0 0]) ?_ 0 _ rfl; (with_reducible repeat (first | refine kN ?_ _ | refine kD ?_ | refine kA ?_ _)); exact BK243.out⟩, ⟨by repeat (first | (with_reducible first | exact HB.out | apply bA | apply bN | apply bD | refine bS ?_ GE238.out | refine bS ?_ GE243.out) | exact HB.out)⟩⟩
            rw [if_neg c43] at H
            have c43b0 : decide (((r40 l0_0 x5_4).f1) < 0) = false := decide_eq_false c43
            clear c43
            by_cases c46 : ((r40 l0_0 x5_4).f1) > 60
            ·rw [if_pos c46] at H
             have c46b0 : decide (60 < ((r40 l0_0 x5_4).f1)) = true := decide_eq_true c46
             clear c46
             have H' := Aside0.mk H
             clear H
             have hnb47 := NB243_238.out
             have hnc47 := NB238_243.out
             have hcz48_0 : w34.cell? ⟨gb243, 0, none⟩ = some (.int .i64 0) := (kC BK243.out 0).trans rfl
             have hcz48_1 : w34.cell? ⟨gb243, 1, none⟩ = some (.int .i64 0) := (kC BK243.out 1).trans rfl
             have hcz48_2 : w34.cell? ⟨gb243, 2, none⟩ = some (.int .i64 0) := (kC BK243.out 2).trans rfl
             have hcz48_3 : w34.cell? ⟨gb243, 3, none⟩ = some (.slice none 0 0) := (kC BK243.out 3).trans rfl
             have hfz48_0 := kF BK243.out 0
             have hfz48_1 := kF BK243.out 1
             have hfz48_2 := kF BK243.out 2
             have hfz48_3 := kF BK243.out 3
             go_wp2
             go_meet
             case rel => exact ⟨_, (true), (by first | rfl | (simp; done) | (simp [*]; done)), H', ⟨by have := HJ1.out; have := HK2.out; have := HK3.out; have := HK4.out; first | omega | exact Nat.le_refl _⟩, ⟨by (with_reducible repeat (first | refine kN ?_ _ | refine kD ?_ | refine kA ?_ _)); refine blk_far ?_ NB238_243.out _; (with_reducible repeat (first | refine kN ?_ _ | refine kD ?_ | refine kA ?_ _)); refine blk_far ?_ NB238_243.out _; (with_reducible repeat (first | refine kN ?_ _ | refine kD ?_ | refine kA ?_ _)); refine blk_far ?_ NB238_243.out _; (with_reducible repeat (first | refine kN ?_ _ | refine kD ?_ | refine kA ?_ _)); refine blk_far ?_ NB238_243.out _; (with_reducible repeat (first | refine kN ?_ _ | refine kD ?_ | refine kA ?_ _)); exact BK238.out⟩, ⟨by (with_reducible repeat (first | refine kN ?_ _ | refine kD ?_ | refine kA ?_ _)); refine kP (cs := #[.int .i64 ((r40 l0_0 x5_4).f0), .int .i64 ((r40 l0_0 x5_4).f1), .int .i64 ((r40 l0_0 x5_4).f2), .slice none 0 0]) ?_ 3 _ rfl; (with_reducible repeat (first | refine kN ?_ _ | refine kD ?_ | refine kA ?_ _)); refine kP (cs := #[.int .i64 ((r40 l0_0 x5_4).f0), .int .i64 ((r40 l0_0 x5_4).f1), .int .i64 0, .slice none 0 0]) ?_ 2 _ rfl; (with_reducible repeat (first | refine kN ?_ _ | refine kD ?_ | refine kA ?_ _)); refine kP (cs := #[.int .i64 ((r40 l0_0 x5_4).f0), .int .i64 0, .int .i64 0, .slice none 0 0]) ?_ 1 _ rfl; (with_reducible repeat (first | refine kN ?_ _ | refine kD ?_ | refine kA ?_ _)); refine kP (cs := #[.int .i64 0, .int .i64 0, .int .i64 0, .slice none 0 0]) ?_ 0 _ rfl; (with_reducible repeat (first | refine kN ?_ _ | refine kD ?_ | refine kA ?_ _)); exact BK243.out⟩, ⟨by repeat (first | (with_reducible first | exact HB.out | apply bA | apply bN | apply bD | refine bS ?_ GE238.out | refine bS ?_ GE243.out) | exact HB.out)⟩⟩
            rw [if_neg c46] at H
            have c46b0 : decide (60 < ((r40 l0_0 x5_4).f1)) = false := decide_eq_false c46
            clear c46
            by_cases c49 : ((r40 l0_0 x5_4).f2) < 1
            ·rw [if_pos c49] at H
             have c49b0 : decide (((r40 l0_0 x5_4).f2) < 1) = true := decide_eq_true c49
             clear c49
             have H' := Aside0.mk H
             clear H
             have hnb50 := NB243_238.out
             have hnc50 := NB238_243.out
             have hcz51_0 : w34.cell? ⟨gb243, 0, none⟩ = some (.int .i64 0) := (kC BK243.out 0).trans rfl
             have hcz51_1 : w34.cell? ⟨gb243, 1, none⟩ = some (.int .i64 0) := (kC BK243.out 1).trans rfl
             have hcz51_2 : w34.cell? ⟨gb243, 2, none⟩ = some (.int .i64 0) := (kC BK243.out 2).trans rfl
             have hcz51_3 : w34.cell? ⟨gb243, 3, none⟩ = some (.slice none 0 0) := (kC BK243.out 3).trans rfl
             have hfz51_0 := kF BK243.out 0
             have hfz51_1 := kF BK243.out 1
             have hfz51_2 := kF BK243.out 2
             have hfz51_3 := kF BK243.out 3
             go_wp2
             go_meet
             case rel => exact ⟨_, (true), (by first | rfl | (simp; done) | (simp [*]; done)), H', ⟨by have := HJ1.out; have := HK2.out; have := HK3.out; have := HK4.out; first | omega | exact Nat.le_refl _⟩, ⟨by (with_reducible repeat (first | refine kN ?_ _ | refine kD ?_ | refine kA ?_ _)); refine blk_far ?_ NB238_243.out _; (with_reducible repeat (first | refine kN ?_ _ | refine kD ?_ | refine kA ?_ _)); refine blk_far ?_ NB238_243.out _; (with_reducible repeat (first | refine kN ?_ _ | refine kD ?_ | refine kA ?_ _)); refine blk_far ?_ NB238_243.out _; (with_reducible repeat (first | refine kN ?_ _ | refine kD ?_ | refine kA ?_ _)); refine blk_far ?_ NB238_243.out _; (with_reducible repeat (first | refine kN ?_ _ | refine kD ?_ | refine kA ?_ _)); exact BK238.out⟩, ⟨by (with_reducible repeat (first | refine kN ?_ _ | refine kD ?_ | refine kA ?_ _)); refine kP (cs := #[.int .i64 ((r40 l0_0 x5_4).f0), .int .i64 ((r40 l0_0 x5_4).f1), .int .i64 ((r40 l0_0 x5_4).f2), .slice none 0 0]) ?_ 3 _ rfl; (with_reducible repeat (first | refine kN ?_ _ | refine kD ?_ | refine kA ?_ _)); refine kP (cs := #[.int .i64 ((r40 l0_0 x5_4).f0), .int .i64 ((r40 l0_0 x5_4).f1), .int .i64 0, .slice none 0 0]) ?_ 2 _ rfl; (with_reducible repeat (first | refine kN ?_ _ | refine kD ?_ | refine kA ?_ _)); refine kP (cs := #[.int .i64 ((r40 l0_0 x5_4).f0), .int .i64 0, .int .i64 0, .slice none 0 0]) ?_ 1 _ rfl; (with_reducible repeat (first | refine kN ?_ _ | refine kD ?_ | refine kA ?_ _)); refine kP (cs := #[.int .i64 0, .int .i64 0, .int .i64 0, .slice none 0 0]) ?_ 0 _ rfl; (with_reducible repeat (first | refine kN ?_ _ | refine kD ?_ | refine kA ?_ _)); exact BK243.out⟩, ⟨by repeat (first | (with_reducible first | exact HB.out | apply bA | apply bN | apply bD | refine bS ?_ GE238.out | refine bS ?_ GE243.out) | exact HB.out)⟩⟩
            rw [if_neg c49] at H
            have c49b0 : decide (((r40 l0_0 x5_4).f2) < 1) = false := decide_eq_false c49
            clear c49
            by_cases c52 : ((r40 l0_0 x5_4).f2) > 60
            ·rw [if_pos c52] at H
             have c52b0 : decide (60 < ((r40 l0_0 x5_4).f2)) = true := decide_eq_true c52
             clear c52
             have H' := Aside0.mk H
             clear H
             have hnb53 := NB243_238.out
             have hnc53 := NB238_243.out
             have hcz54_0 : w34.cell? ⟨gb243, 0, none⟩ = some (.int .i64 0) := (kC BK243.out 0).trans rfl
             have hcz54_1 : w34.cell? ⟨gb243, 1, none⟩ = some (.int .i64 0) := (kC BK243.out 1).trans rfl
             have hcz54_2 : w34.cell? ⟨gb243, 2, none⟩ = some (.int .i64 0) := (kC BK243.out 2).trans rfl
             have hcz54_3 : w34.cell? ⟨gb243, 3, none⟩ = some (.slice none 0 0) := (kC BK243.out 3).trans rfl
             have hfz54_0 := kF BK243.out 0
             have hfz54_1 := kF BK243.out 1
             have hfz54_2 := kF BK243.out 2
             have hfz54_3 := kF BK243.out 3
             go_wp2
             go_meet
             case rel => exact ⟨_, (true), (by first | rfl | (simp; done) | (simp [*]; done)), H', ⟨by have := HJ1.out; have := HK2.out; have := HK3.out; have := HK4.out; first | omega | exact Nat.le_refl _⟩, ⟨by (with_reducible repeat (first | refine kN ?_ _ | refine kD ?_ | refine kA ?_ _)); refine blk_far ?_ NB238_243.out _; (with_reducible repeat (first | refine kN ?_ _ | refine kD ?_ | refine kA ?_ _)); refine blk_far ?_ NB238_243.out _; (with_reducible repeat (first | refine kN ?_ _ | refine kD ?_ | refine kA ?_ _)); refine blk_far ?_ NB238_243.out _; (with_reducible repeat (first | refine kN ?_ _ | refine kD ?_ | refine kA ?_ _)); refine blk_far ?_ NB238_243.out _; (with_reducible repeat (first | refine kN ?_ _ | refine kD ?_ | refine kA ?_ _)); exact BK238.out⟩, ⟨by (with_reducible repeat (first | refine kN ?_ _ | refine kD ?_ | refine kA ?_ _)); refine kP (cs := #[.int .i64 ((r40 l0_0 x5_4).f0), .int .i64 ((r40 l0_0 x5_4).f1), .int .i64 ((r40 l0_0 x5_4).f2), .slice none 0 0]) ?_ 3 _ rfl; (with_reducible repeat (first | refine kN ?_ _ | refine kD ?_ | refine kA ?_ _)); refine kP (cs := #[.int .i64 ((r40 l0_0 x5_4).f0), .int .i64 ((r40 l0_0 x5_4).f1), .int .i64 0, .slice none 0 0]) ?_ 2 _ rfl; (with_reducible repeat (first | refine kN ?_ _ | refine kD ?_ | refine kA ?_ _)); refine kP (cs := #[.int .i64 ((r40 l0_0 x5_4).f0), .int .i64 0, .int .i64 0, .slice none 0 0]) ?_ 1 _ rfl; (with_reducible repeat (first | refine kN ?_ _ | refine kD ?_ | refine kA ?_ _)); refine kP (cs := #[.int .i64 0, .int .i64 0, .int .i64 0, .slice none 0 0]) ?_ 0 _ rfl; (with_reducible repeat (first | refine kN ?_ _ | refine kD ?_ | refine kA ?_ _)); exact BK243.out⟩, ⟨by repeat (first | (with_reducible first | exact HB.out | apply bA | apply bN | apply bD | refine bS ?_ GE238.out | refine bS ?_ GE243.out) | exact HB.out)⟩⟩
            rw [if_neg c52] at H
            have c52b0 : decide (60 < ((r40 l0_0 x5_4).f2)) = false := decide_eq_false c52
            clear c52
            by_cases c55 : (((r40 l0_0 x5_4).f3).length : Int) < 1
            ·rw [if_pos c55] at H
             have c55b0 : decide ((((r40 l0_0 x5_4).f3).length : Int) < 1) = true := decide_eq_true c55
             have c55b1 : decide (((r40 l0_0 x5_4).f3).length < 1) = true := decide_eq_true (by omega)
             clear c55
             have H' := Aside0.mk H
             clear H
             have hnb56 := NB243_238.out
             have hnc56 := NB238_243.out
             have hcz57_0 : w34.cell? ⟨gb243, 0, none⟩ = some (.int .i64 0) := (kC BK243.out 0).trans rfl
             have hcz57_1 : w34.cell? ⟨gb243, 1, none⟩ = some (.int .i64 0) := (kC BK243.out 1).trans rfl
             have hcz57_2 : w34.cell? ⟨gb243, 2, none⟩ = some (.int .i64 0) := (kC BK243.out 2).trans rfl
             have hcz57_3 : w34.cell? ⟨gb243, 3, none⟩ = some (.slice none 0 0) := (kC BK243.out 3).trans rfl
             have hfz57_0 := kF BK243.out 0
             have hfz57_1 := kF BK243.out 1
             have hfz57_2 := kF BK243.out 2
             have hfz57_3 := kF BK243.out 3
             go_wp2
             go_meet
             case rel => exact ⟨_, (true), (by first | rfl | (simp; done) | (simp [*]; done)), H', ⟨by have := HJ1.out; have := HK2.out; have := HK3.out; have := HK4.out; first | omega | exact Nat.le_refl _⟩, ⟨by (with_reducible repeat (first | refine kN ?_ _ | refine kD ?_ | refine kA ?_ _)); refine blk_far ?_ NB238_243.out _; (with_reducible repeat (first | refine kN ?_ _ | refine kD ?_ | refine kA ?_ _)); refine blk_far ?_ NB238_243.out _; (with_reducible repeat (first | refine kN ?_ _ | refine kD ?_ | refine kA ?_ _)); refine blk_far ?_ NB238_243.out _; (with_reducible repeat (first | refine kN ?_ _ | refine kD ?_ | refine kA ?_ _)); refine blk_far ?_ NB238_243.out _; (with_reducible repeat (first | refine kN ?_ _ | refine kD ?_ | refine kA ?_ _)); exact BK238.out⟩, ⟨by (with_reducible repeat (first | refine kN ?_ _ | refine kD ?_ | refine kA ?_ _)); refine kP (cs := #[.int .i64 ((r40 l0_0 x5_4).f0), .int .i64 ((r40 l0_0 x5_4).f1), .int .i64 ((r40 l0_0 x5_4).f2), .slice none 0 0]) ?_ 3 _ rfl; (with_reducible repeat (first | refine kN ?_ _ | refine kD ?_ | refine kA ?_ _)); refine kP (cs := #[.int .i64 ((r40 l0_0 x5_4).f0), .int .i64 ((r40 l0_0 x5_4).f1), .int .i64 0, .slice none 0 0]) ?_ 2 _ rfl; (with_reducible repeat (first | refine kN ?_ _ | refine kD ?_ | refine kA ?_ _)); refine kP (cs := #[.int .i64 ((r40 l0_0 x5_4).f0), .int .i64 0, .int .i64 0, .slice none 0 0]) ?_ 1 _ rfl; (with_reducible repeat (first | refine kN ?_ _ | refine kD ?_ | refine kA ?_ _)); refine kP (cs := #[.int .i64 0, .int .i64 0, .int .i64 0, .slice none 0 0]) ?_ 0 _ rfl; (with_reducible repeat (first | refine kN ?_ _ | refine kD ?_ | refine kA ?_ _)); exact BK243.out⟩, ⟨by repeat (first | (with_reducible first | exact HB.out | apply bA | apply bN | apply bD | refine bS ?_ GE238.out | refine bS ?_ GE243.out) | exact HB.out)⟩⟩
            rw [if_neg c55] at H
            have c55b0 : decide ((((r40 l0_0 x5_4).f3).length : Int) < 1) = false := decide_eq_false c55
            have c55b1 : decide (((r40 l0_0 x5_4).f3).length < 1) = false := decide_eq_false (by omega)
            clear c55
            have H' := Aside0.mk H
            clear H
            have hnb58 := NB243_238.out
            have hnc58 := NB238_243.out
            have hcz59_0 : w34.cell? ⟨gb243, 0, none⟩ = some (.int .i64 0) := (kC BK243.out 0).trans rfl
            have hcz59_1 : w34.cell? ⟨gb243, 1, none⟩ = some (.int .i64 0) := (kC BK243.out 1).trans rfl
            have hcz59_2 : w34.cell? ⟨gb243, 2, none⟩ = some (.int .i64 0) := (kC BK243.out 2).trans rfl
            have hcz59_3 : w34.cell? ⟨gb243, 3, none⟩ = some (.slice none 0 0) := (kC BK243.out 3).trans rfl
            have hfz59_0 := kF BK243.out 0
            have hfz59_1 := kF BK243.out 1
            have hfz59_2 := kF BK243.out 2
            have hfz59_3 := kF BK243.out 3
            go_wp2
            go_meet
            case rel => exact ⟨_, (decide ((((r40 l0_0 x5_4).f3).length : Int) > 400)), (by first | rfl | (simp; done) | (simp [*]; done)), H', ⟨by have := HJ1.out; have := HK2.out; have := HK3.out; have := HK4.out; first | omega | exact Nat.le_refl _⟩, ⟨by (with_reducible repeat (first | refine kN ?_ _ | refine kD ?_ | refine kA ?_ _)); refine blk_far ?_ NB238_243.out _; (with_reducible repeat (first | refine kN ?_ _ | refine kD ?_ | refine kA ?_ _)); refine blk_far ?_ NB238_243.out _; (with_reducible repeat (first | refine kN ?_ _ | refine kD ?_ | refine kA ?_ _)); refine blk_far ?_ NB238_243.out _; (with_reducible repeat (first | refine kN ?_ _ | refine kD ?_ | refine kA ?_ _)); refine blk_far ?_ NB238_243.out _; (with_reducible repeat (first | refine kN ?_ _ | refine kD ?_ | refine kA ?_ _)); exact BK238.out⟩, ⟨by (with_reducible repeat (first | refine kN ?_ _ | refine kD ?_ | refine kA ?_ _)); refine kP (cs := #[.int .i64 ((r40 l0_0 x5_4).f0), .int .i64 ((r40 l0_0 x5_4).f1), .int .i64 ((r40 l0_0 x5_4).f2), .slice none 0 0]) ?_ 3 _ rfl; (with_reducible repeat (first | refine kN ?_ _ | refine kD ?_ | refine kA ?_ _)); refine kP (cs := #[.int .i64 ((r40 l0_0 x5_4).f0), .int .i64 ((r40 l0_0 x5_4).f1), .int .i64 0, .slice none 0 0]) ?_ 2 _ rfl; (with_reducible repeat (first | refine kN ?_ _ | refine kD ?_ | refine kA ?_ _)); refine kP (cs := #[.int .i64 ((r40 l0_0 x5_4).f0), .int .i64 0, .int .i64 0, .slice none 0 0]) ?_ 1 _ rfl; (with_reducible repeat (first | refine kN ?_ _ | refine kD ?_ | refine kA ?_ _)); refine kP (cs := #[.int .i64 0, .int .i64 0, .int .i64 0, .slice none 0 0]) ?_ 0 _ rfl; (with_reducible repeat (first | refine kN ?_ _ | refine kD ?_ | refine kA ?_ _)); exact BK243.out⟩, ⟨by repeat (first | (with_reducible first | exact HB.out | apply bA | apply bN | apply bD | refine bS ?_ GE238.out | refine bS ?_ GE243.out) | exact HB.out)⟩⟩
           case rest =>
            clear HC32
            try clear c30b0
            try clear c31b0
            try clear hcz33_0
            try clear hcz33_1
            try clear hcz33_2
            try clear hcz33_3
            try clear hcz36_0
            try clear hcz36_1
            try clear hcz36_2
            try clear hcz36_3
            try clear hfz33_0
            try clear hfz33_1
            try clear hfz33_2
            try clear hfz33_3
            try clear hfz36_0
            try clear hfz36_1
            try clear hfz36_2
            try clear hfz36_3
            try clear hx242_0
            try clear hx242_1
            try clear hx242_2
            try clear hx242_3
            try clear p242
            try clear q242
            obtain ⟨kq, x127_31, rfl, HA, HJ31, BK238, BK243, HB⟩ := hcut
            cases kq with
            | zero => exact absurd HA.out (by simp [zM.j4])
            | succ kj31 =>
             have H := HA.out
             clear HA
             simp only [zM.j4] at H
             by_cases c60 : x127_31 = true
             ·subst c60
              have H1 : (some false) = some r := by rw [if_pos rfl] at H; exact H
              clear H
              have H := H1
              clear H1
              obtain rfl := Option.some.inj H
              go_wp2
              go_ret
              exact ⟨by first | rfl | (simp [wN, wS] <;> rfl) | (simp [*, wN, wS] <;> rfl), by repeat (first | (with_reducible first | exact HB.out | apply bA | apply bN | apply bD | refine bS ?_ GE238.out | refine bS ?_ GE243.out) | exact HB.out)⟩
             replace c60 := Bool.eq_false_iff.mpr c60
             subst c60
             have H1 : (zM.l3 kj31 x5_4 0 l0_0 l0_1 l0_2 a0_3 ((r40 l0_0 x5_4).f0) ((r40 l0_0 x5_4).f1) ((r40 l0_0 x5_4).f2) ((r40 l0_0 x5_4).f3)) = some r := by rw [if_neg (show ¬ (false = true) by decide)] at H; exact H
             clear H
             have H := H1
             clear H1
             have H' := Aside0.mk H
             clear H
             go_wp2
             go_loopg [7] kj31 (fun kq v7 w' => ∃ (x7_6 : Int), v7 = .int .i64 x7_6 ∧ Aside0 (zM.l3 kq x5_4 x7_6 l0_0 l0_1 l0_2 a0_3 ((r40 l0_0 x5_4).f0) ((r40 l0_0 x5_4).f1) ((r40 l0_0 x5_4).f2) ((r40 l0_0 x5_4).f3) = some r) ∧ Aside0 (kq ≤ kj31) ∧ Aside0 (w'.heap[gb238]? = some (.cells #[(.slice (some ad242) l0_0.length c0_0), (.slice A0_1 l0_1.length c0_1), (.slice A0_2 l0_2.length c0_2), .int .i64 a0_3] 26 (0, 0))) ∧ Aside0 (w'.heap[gb243]? = some (.cells #[.int .i64 ((r40 l0_0 x5_4).f0), .int .i64 ((r40 l0_0 x5_4).f1), .int .i64 ((r40 l0_0 x5_4).f2), (.slice A242_3 ((r40 l0_0 x5_4).f3).length c242_3)] 40 (0, 0))) ∧ Aside0 (Below w.heap.size w w'))
             case atStart => exact ⟨(0), (by first | rfl | (simp; done) | (simp [*]; done)), H', ⟨Nat.le_refl _⟩, ⟨by (with_reducible repeat (first | refine kN ?_ _ | refine kD ?_ | refine kA ?_ _)); exact BK238.out⟩, ⟨by (with_reducible repeat (first | refine kN ?_ _ | refine kD ?_ | refine kA ?_ _)); exact BK243.out⟩, ⟨by repeat (first | (with_reducible first | exact HB.out | apply bA | apply bN | apply bD | refine bS ?_ GE238.out | refine bS ?_ GE243.out) | exact HB.out)⟩⟩
             case round =>
              clear H'
              obtain ⟨x7_6, rfl, HA, HK6, BK238, BK243, HB⟩ := hrel
              cases gk with
              | zero => exact absurd HA.out (by simp [zM.l3])
              | succ k6 =>
               have H := HA.out
               clear HA
               simp only [zM.l3] at H
               by_cases c61 : x7_6 < (((r40 l0_0 x5_4).f3).length : Int)
               ·rw [if_pos c61] at H
                have c61b0 : decide (x7_6 < (((r40 l0_0 x5_4).f3).length : Int)) = true := decide_eq_true c61
                clear c61
                by_cases c62 : 0 ≤ x7_6
                ·rw [if_pos c62] at H
                 have c62b0 : decide (0 ≤ x7_6) = true := decide_eq_true c62
                 clear c62
                 replace H := Option.bind_eq_some_iff.mp H
                 obtain ⟨t245, A630, H⟩ := H
                 replace H : (if t245 = true then (zM.l3 k6 x5_4 (wrap64 (x7_6 + 1)) l0_0 l0_1 l0_2 a0_3 ((r40 l0_0 x5_4).f0) ((r40 l0_0 x5_4).f1) ((r40 l0_0 x5_4).f2) ((r40 l0_0 x5_4).f3)) else (some false)) = some r := H
                 have A63 := Aside0.mk A630
                 clear A630
                 by_cases c64 : t245 = true
                 ·subst c64
                  have H1 : (zM.l3 k6 x5_4 (wrap64 (x7_6 + 1)) l0_0 l0_1 l0_2 a0_3 ((r40 l0_0 x5_4).f0) ((r40 l0_0 x5_4).f1) ((r40 l0_0 x5_4).f2) ((r40 l0_0 x5_4).f3)) = some r := by rw [if_pos rfl] at H; exact H
                  clear H
                  have H := H1
                  clear H1
                  have H' := Aside0.mk H
                  clear H
                  have hnb65 := NB243_238.out
                  have hnc65 := NB238_243.out
                  have hcz66_0 : wr.cell? ⟨gb243, 0, none⟩ = some (.int .i64 ((r40 l0_0 x5_4).f0)) := (kC BK243.out 0).trans rfl
                  have hcz66_1 : wr.cell? ⟨gb243, 1, none⟩ = some (.int .i64 ((r40 l0_0 x5_4).f1)) := (kC BK243.out 1).trans rfl
                  have hcz66_2 : wr.cell? ⟨gb243, 2, none⟩ = some (.int .i64 ((r40 l0_0 x5_4).f2)) := (kC BK243.out 2).trans rfl
                  have hcz66_3 : wr.cell? ⟨gb243, 3, none⟩ = some (.slice A242_3 ((r40 l0_0 x5_4).f3).length c242_3) := (kC BK243.out 3).trans rfl
                  have hfz66_0 := kF BK243.out 0
                  have hfz66_1 := kF BK243.out 1
                  have hfz66_2 := kF BK243.out 2
                  have hfz66_3 := kF BK243.out 3
                  have p244 : 0 ≤ (x7_6 : Int) := of_decide_eq_true (by first | (with_reducible assumption) | assumption)
                  have q244 : x7_6 < (((r40 l0_0 x5_4).f3).length : Int) := of_decide_eq_true (by first | (with_reducible assumption) | assumption)
                  obtain ⟨ad244, e244, hx244_0, hx244_1, hx244_2⟩ := at_T42 HR242_3.out x7_6 p244 q244
                  cases e244
                  replace hx244_0 := (HB.out.cell (World.block_lt_of_cell? w _ hx244_0)).trans hx244_0
                  replace hx244_1 := (HB.out.cell (World.block_lt_of_cell? w _ hx244_1)).trans hx244_1
                  replace hx244_2 := (HB.out.cell (World.block_lt_of_cell? w _ hx244_2)).trans hx244_2
                  replace p244 := eq_true p244
                  replace q244 := eq_true q244
                  go_wp2_with (first | ((with_reducible refine gate_callee (f := 32) rfl ?_); refine goesL_ (some 140) rfl rfl Try.func32 (by kernel_rfl) rfl #[.agg #[.int .i64 ((r42 ((r40 l0_0 x5_4).f3) x7_6).f0), .int .i64 ((r42 ((r40 l0_0 x5_4).f3) x7_6).f1), .int .i64 ((r42 ((r40 l0_0 x5_4).f3) x7_6).f2)]] rfl (by (try simp only [List.map_toArray, List.map_cons, List.map_nil]); first | done | rfl | (simp only [List.length_drop, List.length_take]; rfl)) ?_; (with_reducible refine (selvageref13_Instr.calls k6 ((r42 ((r40 l0_0 x5_4).f3) x7_6).f0) ((r42 ((r40 l0_0 x5_4).f3) x7_6).f1) ((r42 ((r40 l0_0 x5_4).f3) x7_6).f2) true _ A63.out).mono ?_); rintro e w67 ⟨rfl, hb⟩; refine ⟨_, rfl, ?_⟩; have n0_ := Aside0.mk (kB (g := gb238) (o := .cells #[.slice (some ad242) l0_0.length c0_0, .slice A0_1 l0_1.length c0_1, .slice A0_2 l0_2.length c0_2, .int .i64 a0_3] 26 (0, 0)) (by (with_reducible repeat (first | refine kN ?_ _ | refine kD ?_ | refine kA ?_ _)); exact BK238.out) hb); have n1_ := Aside0.mk (kB (g := gb243) (o := .cells #[.int .i64 ((r40 l0_0 x5_4).f0), .int .i64 ((r40 l0_0 x5_4).f1), .int .i64 ((r40 l0_0 x5_4).f2), .slice (some ad244) ((r40 l0_0 x5_4).f3).length c242_3] 40 (0, 0)) (by (with_reducible repeat (first | refine kN ?_ _ | refine kD ?_ | refine kA ?_ _)); exact BK243.out) hb); have n2_ := Aside0.mk (bT (by repeat (first | (with_reducible first | exact HB.out | apply bA | apply bN | apply bD | refine bS ?_ GE238.out | refine bS ?_ GE243.out) | exact HB.out)) hb); clear BK238; clear BK243; clear HB; have BK238 := n0_; have BK243 := n1_; have HB := n2_; clear n0_ n1_ n2_; (try clear hb); (try clear hb2); (try clear hk); (try clear hi)))
                  go_roundg k6
                  case measure => have := HJ1.out; have := HK2.out; have := HK3.out; have := HK4.out; have := HJ31.out; have := HK6.out; omega
                  case rel => exact ⟨(wrap64 (x7_6 + 1)), (by first | rfl | (simp; done) | (simp [*]; done)), H', ⟨by have := HJ1.out; have := HK2.out; have := HK3.out; have := HK4.out; have := HJ31.out; have := HK6.out; omega⟩, ⟨by (with_reducible repeat (first | refine kN ?_ _ | refine kD ?_ | refine kA ?_ _)); exact BK238.out⟩, ⟨by (with_reducible repeat (first | refine kN ?_ _ | refine kD ?_ | refine kA ?_ _)); exact BK243.out⟩, ⟨by repeat (first | (with_reducible first | exact HB.out | apply bA | apply bN | apply bD | refine bS ?_ GE238.out | refine bS ?_ GE243.out) | exact HB.out)⟩⟩
                 replace c64 := Bool.eq_false_iff.mpr c64
                 subst c64
                 have H1 : (some false) = some r := by rw [if_neg (show ¬ (false = true) by decide)] at H; exact H
                 clear H
                 have H := H1
                 clear H1
                 obtain rfl := Option.some.inj H
                 have hnb68 := NB243_238.out
                 have hnc68 := NB238_243.out
                 have hcz69_0 : wr.cell? ⟨gb243, 0, none⟩ = some (.int .i64 ((r40 l0_0 x5_4).f0)) := (kC BK243.out 0).trans rfl
                 have hcz69_1 : wr.cell? ⟨gb243, 1, none⟩ = some (.int .i64 ((r40 l0_0 x5_4).f1)) := (kC BK243.out 1).trans rfl
                 have hcz69_2 : wr.cell? ⟨gb243, 2, none⟩ = some (.int .i64 ((r40 l0_0 x5_4).f2)) := (kC BK243.out 2).trans rfl
                 have hcz69_3 : wr.cell? ⟨gb243, 3, none⟩ = some (.slice A242_3 ((r40 l0_0 x5_4).f3).length c242_3) := (kC BK243.out 3).trans rfl
                 have hfz69_0 := kF BK243.out 0
                 have hfz69_1 := kF BK243.out 1
                 have hfz69_2 := kF BK243.out 2
                 have hfz69_3 := kF BK243.out 3
                 have p244 : 0 ≤ (x7_6 : Int) := of_decide_eq_true (by first | (with_reducible assumption) | assumption)
                 have q244 : x7_6 < (((r40 l0_0 x5_4).f3).length : Int) := of_decide_eq_true (by first | (with_reducible assumption) | assumption)
                 obtain ⟨ad244, e244, hx244_0, hx244_1, hx244_2⟩ := at_T42 HR242_3.out x7_6 p244 q244
                 cases e244
                 replace hx244_0 := (HB.out.cell (World.block_lt_of_cell? w _ hx244_0)).trans hx244_0
                 replace hx244_1 := (HB.out.cell (World.block_lt_of_cell? w _ hx244_1)).trans hx244_1
                 replace hx244_2 := (HB.out.cell (World.block_lt_of_cell? w _ hx244_2)).trans hx244_2
                 replace p244 := eq_true p244
                 replace q244 := eq_true q244
                 go_wp2_with (first | ((with_reducible refine gate_callee (f := 32) rfl ?_); refine goesL_ (some 140) rfl rfl Try.func32 (by kernel_rfl) rfl #[.agg #[.int .i64 ((r42 ((r40 l0_0 x5_4).f3) x7_6).f0), .int .i64 ((r42 ((r40 l0_0 x5_4).f3) x7_6).f1), .int .i64 ((r42 ((r40 l0_0 x5_4).f3) x7_6).f2)]] rfl (by (try simp only [List.map_toArray, List.map_cons, List.map_nil]); first | done | rfl | (simp only [List.length_drop, List.length_take]; rfl)) ?_; (with_reducible refine (selvageref13_Instr.calls k6 ((r42 ((r40 l0_0 x5_4).f3) x7_6).f0) ((r42 ((r40 l0_0 x5_4).f3) x7_6).f1) ((r42 ((r40 l0_0 x5_4).f3) x7_6).f2) false _ A63.out).mono ?_); rintro e w70 ⟨rfl, hb⟩; refine ⟨_, rfl, ?_⟩; have n0_ := Aside0.mk (kB (g := gb238) (o := .cells #[.slice (some ad242) l0_0.length c0_0, .slice A0_1 l0_1.length c0_1, .slice A0_2 l0_2.length c0_2, .int .i64 a0_3] 26 (0, 0)) (by (with_reducible repeat (first | refine kN ?_ _ | refine kD ?_ | refine kA ?_ _)); exact BK238.out) hb); have n1_ := Aside0.mk (kB (g := gb243) (o := .cells #[.int .i64 ((r40 l0_0 x5_4).f0), .int .i64 ((r40 l0_0 x5_4).f1), .int .i64 ((r40 l0_0 x5_4).f2), .slice (some ad244) ((r40 l0_0 x5_4).f3).length c242_3] 40 (0, 0)) (by (with_reducible repeat (first | refine kN ?_ _ | refine kD ?_ | refine kA ?_ _)); exact BK243.out) hb); have n2_ := Aside0.mk (bT (by repeat (first | (with_reducible first | exact HB.out | apply bA | apply bN | apply bD | refine bS ?_ GE238.out | refine bS ?_ GE243.out) | exact HB.out)) hb); clear BK238; clear BK243; clear HB; have BK238 := n0_; have BK243 := n1_; have HB := n2_; clear n0_ n1_ n2_; (try clear hb); (try clear hb2); (try clear hk); (try clear hi)))
                 go_ret
                 exact ⟨by first | rfl | (simp [wN, wS] <;> rfl) | (simp [*, wN, wS] <;> rfl), by repeat (first | (with_reducible first | exact HB.out | apply bA | apply bN | apply bD | refine bS ?_ GE238.out | refine bS ?_ GE243.out) | exact HB.out)⟩
                rw [if_neg c62] at H
                exact absurd H (by simp)
               rw [if_neg c61] at H
               have c61b0 : decide (x7_6 < (((r40 l0_0 x5_4).f3).length : Int)) = false := decide_eq_false c61
               clear c61
               have H' := Aside0.mk H
               clear H
               have hnb71 := NB243_238.out
               have hnc71 := NB238_243.out
               have hcz72_0 : wr.cell? ⟨gb243, 0, none⟩ = some (.int .i64 ((r40 l0_0 x5_4).f0)) := (kC BK243.out 0).trans rfl
               have hcz72_1 : wr.cell? ⟨gb243, 1, none⟩ = some (.int .i64 ((r40 l0_0 x5_4).f1)) := (kC BK243.out 1).trans rfl
               have hcz72_2 : wr.cell? ⟨gb243, 2, none⟩ = some (.int .i64 ((r40 l0_0 x5_4).f2)) := (kC BK243.out 2).trans rfl
               have hcz72_3 : wr.cell? ⟨gb243, 3, none⟩ = some (.slice A242_3 ((r40 l0_0 x5_4).f3).length c242_3) := (kC BK243.out 3).trans rfl
               have hfz72_0 := kF BK243.out 0
               have hfz72_1 := kF BK243.out 1
               have hfz72_2 := kF BK243.out 2
               have hfz72_3 := kF BK243.out 3
               go_wp2
               go_roundg k6
               case measure => have := HJ1.out; have := HK2.out; have := HK3.out; have := HK4.out; have := HJ31.out; have := HK6.out; omega
               case rel => exact ⟨(wrap64 (x5_4 + 1)), (by first | rfl | (simp; done) | (simp [*]; done)), H', ⟨by have := HJ1.out; have := HK2.out; have := HK3.out; have := HK4.out; have := HJ31.out; have := HK6.out; omega⟩, ⟨by (with_reducible repeat (first | refine kN ?_ _ | refine kD ?_ | refine kA ?_ _)); exact BK238.out⟩, ⟨by repeat (first | (with_reducible first | exact HB.out | apply bA | apply bN | apply bD | refine bS ?_ GE238.out | refine bS ?_ GE243.out) | exact HB.out)⟩⟩
          rw [if_neg c31] at H
          exact absurd H (by simp)
         rw [if_neg c30] at H
         have c30b0 : decide (x5_4 < (l0_0.length : Int)) = false := decide_eq_false c30
         clear c30
         obtain rfl := Option.some.inj H
         have hcz73_0 : wr.cell? ⟨gb238, 0, none⟩ = some (.slice A0_0 l0_0.length c0_0) := (kC BK238.out 0).trans rfl
         have hcz73_1 : wr.cell? ⟨gb238, 1, none⟩ = some (.slice A0_1 l0_1.length c0_1) := (kC BK238.out 1).trans rfl
         have hcz73_2 : wr.cell? ⟨gb238, 2, none⟩ = some (.slice A0_2 l0_2.length c0_2) := (kC BK238.out 2).trans rfl
         have hcz73_3 : wr.cell? ⟨gb238, 3, none⟩ = some (.int .i64 a0_3) := (kC BK238.out 3).trans rfl
         have hfz73_0 := kF BK238.out 0
         have hfz73_1 := kF BK238.out 1
         have hfz73_2 := kF BK238.out 2
         have hfz73_3 := kF BK238.out 3
         go_wp2
         go_ret
         exact ⟨by first | rfl | (simp [wN, wS] <;> rfl) | (simp [*, wN, wS] <;> rfl), by repeat (first | (with_reducible first | exact HB.out | apply bA | apply bN | apply bD | refine bS ?_ GE238.out) | exact HB.out)⟩

end Go.Proofs.Ytadbiogchgglpaa.Q
