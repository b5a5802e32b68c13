import Derived.Test.YtcndpclnjnbppaaH13
import Derived.Outline
namespace Go.Proofs.Ytcndpclnjnbppaa.Q
open Go.RowKit Go.Proofs.YtcndpclnjnbppaaW.PrintWords Go.Proofs.YtcndpclnjnbppaaW.PrintLast Go.Proofs.YtcndpclnjnbppaaW.PrintMore
set_option linter.unusedVariables false
set_option linter.unusedSimpArgs false
def L2 : List S54 := [z54, z54]
def L3 : List S54 := [⟨1, [5]⟩, z54]
theorem add0 (a : Addr) : a.add 0 = a := by
  unfold Addr.add
  simp
theorem cell0 {W : World} {a : Addr} {x y : Int} (h : W.cell? (a.add (Int.toNat 0)) = some (.int .i64 x)) (e : x = y) : W.cell? a = some (.int .i64 y) := by
  rw [show Int.toNat 0 = 0 from rfl, add0, e] at h
  exact h
section
variable {w0 : World}
theorem lit5 (W : World) : Kd.C (Kd.int .i64) (W.alloc (.cells #[.int .i64 5] 3)) (some ⟨W.heap.size, 0, none⟩) ([5] : List Int).length [5] := by
  have h := own_lit W W.heap.size 3 .i64 [5] (Nat.le_refl _) (by decide)
  exact (Kd.R_reads' (Kd.R_of_own (ok := fun _ => True) (h1 := fun _ => rfl) (enc := Value.int .i64) (xs := [5]) h (fun _ _ => trivial))).2.2
theorem v_Add1 (g : Nat) (W : World) (hI : IsT (fun _ => True) w0 W g []) (hB : Below w0.heap.size w0 W) : Calls Try.prog 9 #[.pointer (some ⟨g, 0, none⟩)] W fun e w' => e = .returned (.tuple #[.int .i64 0, .int .i64 0]) ∧ IsT (fun _ => True) w0 w' g [z54] ∧ Below w0.heap.size w0 w' :=
  (t_Add hI hB (fun _ _ => trivial)).mono (fun e w' h => ⟨h.1, h.2.1, h.2.2.1⟩)
theorem v_Add2 (g : Nat) (W : World) (hI : IsT (fun _ => True) w0 W g [z54]) (hB : Below w0.heap.size w0 W) : Calls Try.prog 9 #[.pointer (some ⟨g, 0, none⟩)] W fun e w' => e = .returned (.tuple #[.int .i64 1, .int .i64 0]) ∧ IsT (fun _ => True) w0 w' g L2 ∧ Below w0.heap.size w0 w' :=
  (t_Add hI hB (fun _ _ => trivial)).mono (fun e w' h => ⟨h.1, h.2.1, h.2.2.1⟩)
theorem v_Pick (g : Nat) (W : World) (hI : IsT (fun _ => True) w0 W g L2) (hB : Below w0.heap.size w0 W) : Calls Try.prog 16 #[.pointer (some ⟨g, 0, none⟩), .int .i64 3] W fun e w' => e = .returned (.tuple #[.int .i64 1, .bool true]) ∧ IsT (fun _ => True) w0 w' g L2 ∧ Below w0.heap.size w0 w' :=
  (t_Pick 3 (by decide) (by decide) hI).mono (fun e w' h => ⟨h.1, hI.below h.2, below_then hB hB.size h.2⟩)
theorem v_Wait (g : Nat) (W : World) (hI : IsT (fun _ => True) w0 W g L2) (hB : Below w0.heap.size w0 W) : Calls Try.prog 11 #[.pointer (some ⟨g, 0, none⟩), .int .i64 0, .slice (some ⟨W.heap.size, 0, none⟩) 1 1] (W.alloc (.cells #[.int .i64 5] 3)) fun e w' => e = .returned (.int .i64 0) ∧ IsT (fun _ => True) w0 w' g L3 ∧ Below w0.heap.size w0 w' :=
  (t_Wait 0 (some ⟨W.heap.size, 0, none⟩) 1 [5] (hI.below (below_alloc (Below.refl _ _) _)) (below_alloc hB _) (fun _ _ => trivial) (by decide) (lit5 W) (by decide)).mono (fun e w' h => ⟨h.1, h.2.1, h.2.2.1⟩)
theorem v_Ready (g : Nat) (W : World) (hI : IsT (fun _ => True) w0 W g L3) (hB : Below w0.heap.size w0 W) : Calls Try.prog 13 #[.pointer (some ⟨g, 0, none⟩)] W fun e w' => ∃ v, e = .returned v ∧ Kd.R (Kd.int .i64) 3 w' W.heap.size (fun _ => True) v [1] ∧ IsT (fun _ => True) w0 w' g L3 ∧ Below w0.heap.size w0 w' :=
  (t_Ready hI).mono (fun e w' h => by
    obtain ⟨v, h1, h2, h3⟩ := h
    exact ⟨v, h1, h2, hI.below h3, below_then hB hB.size h3⟩)
theorem v_Wake (g : Nat) (W : World) (hI : IsT (fun _ => True) w0 W g L3) (hB : Below w0.heap.size w0 W) : Calls Try.prog 12 #[.pointer (some ⟨g, 0, none⟩), .int .i64 5] W fun e w' => ∃ v, e = .returned v ∧ Kd.R (Kd.int .i64) 3 w' W.heap.size (fun _ => True) v [0] ∧ IsT (fun _ => True) w0 w' g L2 ∧ Below w0.heap.size w0 w' ∧ KeepE 52 54 W w' :=
  (t_Wake 5 hI hB).mono (fun e w' h => by
    obtain ⟨v, h1, h2, h3, h4, h5⟩ := h
    exact ⟨v, h1, h2, h3, h4, h5⟩)
theorem v_Status (g : Nat) (W : World) (hI : IsT (fun _ => True) w0 W g L2) (hB : Below w0.heap.size w0 W) : Calls Try.prog 20 #[.pointer (some ⟨g, 0, none⟩)] W fun e w' => e = .returned (.int .i64 0) ∧ Below w0.heap.size w0 w' :=
  (t_Status hI).mono (fun e w' h => ⟨h.1, below_then hB hB.size h.2⟩)
theorem v_New (w : World) : Calls Try.prog 8 #[] w fun e w' => ∃ g, e = .returned (.pointer (some ⟨g, 0, none⟩)) ∧ IsT (fun _ => True) w w' g [] ∧ Below w.heap.size w w' :=
  (t_New (ok := fun _ => True) (w0 := w) (Below.refl _ _)).mono (fun e w' h => by
    obtain ⟨g, h1, h2, h3, _⟩ := h
    exact ⟨g, h1, h2, h3⟩)
set_option maxHeartbeats 4000000 in
theorem lives_calls (w : World) : Calls Try.prog 14 #[] w fun e w' => e = .returned (.bool true) ∧ Below w.heap.size w w' := by
  go_enter Try.func14, Try.ntmps14
  go_wp2_with (first
    | (go_at_call 8; (with_reducible refine (v_New w).mono ?_); rintro e w1 ⟨g, rfl, hI, hB⟩; have HI1 := Aside0.mk hI; have HB1 := Aside0.mk hB; clear hI hB)
    | (go_at_call 9; first
        | ((with_reducible refine (v_Add2 g _ HI2.out HB2.out).mono ?_); rintro e w3 ⟨rfl, hI, hB⟩; have HI3 := Aside0.mk hI; have HB3 := Aside0.mk hB; clear hI hB)
        | ((with_reducible refine (v_Add1 g _ HI1.out HB1.out).mono ?_); rintro e w2 ⟨rfl, hI, hB⟩; have HI2 := Aside0.mk hI; have HB2 := Aside0.mk hB; clear hI hB))
    | (go_at_call 16; (with_reducible refine (v_Pick g _ HI3.out HB3.out).mono ?_); rintro e w4 ⟨rfl, hI, hB⟩; have HI4 := Aside0.mk hI; have HB4 := Aside0.mk hB; clear hI hB)
    | (go_at_call 11; (with_reducible refine (v_Wait g _ HI4.out HB4.out).mono ?_); rintro e w5 ⟨rfl, hI, hB⟩; have HI5 := Aside0.mk hI; have HB5 := Aside0.mk hB; clear hI hB)
    | (go_at_call 13; (with_reducible refine (v_Ready g _ HI5.out HB5.out).mono ?_); rintro e w6 ⟨v, rfl, hR, hI, hB⟩; obtain ⟨A, c, rfl, hc, hC⟩ := Kd.R_reads hR; have HR := Aside0.mk hR; have HI6 := Aside0.mk hI; have HB6 := Aside0.mk hB; clear hI hB hR hC)
    | (go_at_call 12; (with_reducible refine (v_Wake g _ HI6.out HB6.out).mono ?_); rintro e w7 ⟨v, rfl, hR, hI, hB, hk⟩; obtain ⟨A2, c2, rfl, hc2, hC2⟩ := Kd.R_reads hR; obtain ⟨ad2, e2, hx2⟩ := Kd.at_int hC2 0 (by decide) (by decide); cases e2; replace hx2 : w7.cell? ad2 = some (.int .i64 0) := (cell0 hx2 rfl); have hC3 := (Kd.R_reads' (R_keepE HR.out hk (fun q hq => ⟨ty_int (by decide) q hq, ty_int (by decide) q hq⟩))).2.2; obtain ⟨ad3, e3, hx3⟩ := Kd.at_int hC3 0 (by decide) (by decide); cases e3; replace hx3 : w7.cell? ad3 = some (.int .i64 1) := (cell0 hx3 rfl); have HI7 := Aside0.mk hI; have HB7 := Aside0.mk hB; clear hI hB hR hC2 hC3 hk)
    | (go_at_call 20; (with_reducible refine (v_Status g _ HI7.out HB7.out).mono ?_); rintro e w8 ⟨rfl, hB⟩; have HB8 := Aside0.mk hB; clear hB))
  go_ret
  exact ⟨rfl, HB8.out⟩
end
end Go.Proofs.Ytcndpclnjnbppaa.Q
