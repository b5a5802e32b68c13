import Derived.Test.YtcndpclnjnbppaaH12
import Derived.Outline
import Derived.Deep.DrawnRows
namespace Go.Proofs.Ytcndpclnjnbppaa.Q
open Go.RowKit Go.Proofs.YtcndpclnjnbppaaW.PrintWords Go.Proofs.YtcndpclnjnbppaaW.PrintLast Go.Proofs.YtcndpclnjnbppaaW.PrintMore
attribute [local go_sem ↓] Go.wp_at_zero Go.wp_at_succ
set_option linter.unusedVariables false
set_option linter.unusedSimpArgs false
/-- Both tables. -/
def J (w0 W : World) (gt gr : Nat) (l : List S54) : Prop := IsT (fun _ => True) w0 W gt l ∧ IsR (fun _ => True) w0 W gr l ∧ Below w0.heap.size w0 W
theorem J.t {w0 W : World} {gt gr : Nat} {l : List S54} (h : J w0 W gt gr l) : IsT (fun _ => True) w0 W gt l := h.1
theorem J.r {w0 W : World} {gt gr : Nat} {l : List S54} (h : J w0 W gt gr l) : IsR (fun _ => True) w0 W gr l := h.2.1
theorem J.b {w0 W : World} {gt gr : Nat} {l : List S54} (h : J w0 W gt gr l) : Below w0.heap.size w0 W := h.2.2
theorem J.below {w0 W W1 : World} {gt gr : Nat} {l : List S54} (h : J w0 W gt gr l) (hb : Below W.heap.size W W1) : J w0 W1 gt gr l := ⟨h.1.below hb, h.2.1.below hb, below_then h.2.2 h.2.2.size hb⟩
def doStep (l : List S54) (k n : Int) (vs : List Int) : List S54 := if k = 0 then addL l else if k = 1 then waitL l n (vs.take 12) else if k = 2 then wakeL l n else if k = 3 then endL l n else l
/-- The deed in memory. -/
def BoxD (W : World) (gb : Nat) (k n : Int) (A : Option Addr) (m c : Nat) : Prop := W.heap[gb]? = some (.cells #[.int .i64 k, .int .i64 n, .slice A m c] 41 (0, 0))
theorem BoxD.keep {W W1 : World} {gb m c a b : Nat} {k n : Int} {A : Option Addr} (h : BoxD W gb k n A m c) (hk : KeepE a b W W1) (ha : 41 ≠ a) (hb : 41 ≠ b) : BoxD W1 gb k n A m c := (hk.2 gb _ _ _ h ha hb).trans h
theorem BoxD.below {W W1 : World} {gb m c : Nat} {k n : Int} {A : Option Addr} (h : BoxD W gb k n A m c) (hb : Below W.heap.size W W1) : BoxD W1 gb k n A m c := blk_below h hb
theorem BoxD.c0 {W : World} {gb m c : Nat} {k n : Int} {A : Option Addr} (h : BoxD W gb k n A m c) : W.cell? ⟨gb, 0, none⟩ = some (.int .i64 k) := (blk_cell h 0).trans rfl
theorem BoxD.c1 {W : World} {gb m c : Nat} {k n : Int} {A : Option Addr} (h : BoxD W gb k n A m c) : W.cell? ⟨gb, 1, none⟩ = some (.int .i64 n) := (blk_cell h 1).trans rfl
theorem BoxD.c2 {W : World} {gb m c : Nat} {k n : Int} {A : Option Addr} (h : BoxD W gb k n A m c) : W.cell? ⟨gb, 2, none⟩ = some (.slice A m c) := (blk_cell h 2).trans rfl
theorem few_calls (A : Option Addr) (c : Nat) (vs : List Int) (w : World) (hc : vs.length ≤ c) (hr : Kd.C (Kd.int .i64) w A vs.length vs) : Calls Try.prog 10 #[.slice A vs.length c] w fun e w' => ∃ v, e = .returned v ∧ Kd.R (Kd.int .i64) 3 w' w.heap.size (fun _ => True) v (vs.take 12) ∧ Below w.heap.size w w' :=
  selvagelaw19_few.calls 20 A c vs (vs.take 12) w hr hc (few_f vs)
theorem same_calls (A B : Option Addr) (c d : Nat) (vs : List Int) (w : World) (hl : vs.length ≤ 100000) (hc : vs.length ≤ c) (hd : vs.length ≤ d) (hr : Kd.C (Kd.int .i64) w A vs.length vs) (hs : Kd.C (Kd.int .i64) w B vs.length vs) : Calls Try.prog 17 #[.slice A vs.length c, .slice B vs.length d] w fun e w' => e = .returned (.bool true) ∧ Drawn0 w w' :=
  selvageref02_SameInts.calls (vs.length + 1) A c vs B d vs true w hr hc hs hd (same_f vs hl)
theorem J.drew {w0 W : World} {gt gr : Nat} {l : List S54} (h : J w0 W gt gr l) : J w0 W.drew gt gr l := h.below (below_drew (Below.refl _ _))
theorem BoxD.drew {W : World} {gb m c : Nat} {k n : Int} {A : Option Addr} (h : BoxD W gb k n A m c) : BoxD W.drew gb k n A m c := h
theorem ty_i2 {a b : Nat} {ha : 3 ≠ a} {hb : 3 ≠ b} : ∀ q, q ∈ 3 :: (Kd.int .i64).E → q ≠ a ∧ q ≠ b := fun q hq => ⟨ty_int ha q hq, ty_int hb q hq⟩
section
variable {w0 w : World} {gt gr : Nat} {l : List S54}
set_option maxHeartbeats 8000000 in
theorem does_calls (k n : Int) (A : Option Addr) (c : Nat) (vs : List Int) (hJ : J w0 w gt gr l) (hc : vs.length ≤ c) (hr : Kd.C (Kd.int .i64) w A vs.length vs) :
    Calls Try.prog 15 #[.pointer (some ⟨gt, 0, none⟩), .pointer (some ⟨gr, 0, none⟩), .agg #[.int .i64 k, .int .i64 n, .slice A vs.length c]] w fun e w' => e = .returned (.bool true) ∧ J w0 w' gt gr (doStep l k n vs) := by
  have hu41 := Try.underlying41
  have HJ := Aside0.mk hJ
  have HJ1 := Aside0.mk (hJ.below (below_alloc (Below.refl _ _) (.cells #[.int .i64 k, .int .i64 n, .slice A vs.length c] 41)))
  have HBX := Aside0.mk (show BoxD (w.alloc (.cells #[.int .i64 k, .int .i64 n, .slice A vs.length c] 41)) w.heap.size k n A vs.length c from blk_new w _)
  have HC := Aside0.mk (Kd.C_alloc hr (.cells #[.int .i64 k, .int .i64 n, .slice A vs.length c] 41))
  have HF := Aside0.mk (few_calls A c vs (w.alloc (.cells #[.int .i64 k, .int .i64 n, .slice A vs.length c] 41)) hc HC.out)
  have h12 : (vs.take 12).length ≤ 12 := by rw [List.length_take]; omega
  unfold doStep
  generalize vs.take 12 = us at *
  have H12 := Aside0.mk h12
  have HOK := Aside0.mk (fun (k : Nat) (_ : w.heap.size ≤ k) => trivial)
  clear hJ hr h12
  by_cases k0 : k = 0
  · subst k0
    rw [if_pos rfl]
    go_enter Try.func15, Try.ntmps15
    go_wp2_with (first
      | (go_at_call 10; (with_reducible refine HF.out.mono ?_); rintro e w1 ⟨v, rfl, hR, hb⟩; obtain ⟨A1, c1, rfl, hc1, hC1⟩ := Kd.R_reads hR; have HBX2 := Aside0.mk (HBX.out.below hb); have q0 := HBX2.out.c0; have q1 := HBX2.out.c1; have HJ2 := Aside0.mk (HJ1.out.below hb); have HC2 := Aside0.mk hC1; clear hR hb hC1)
      | (go_at_call 9; (with_reducible refine (t_Add HJ2.out.t HJ2.out.b (fun _ _ => trivial)).mono ?_); rintro e w2 ⟨rfl, hT, hB, hk⟩; have HT := Aside0.mk hT; have HB := Aside0.mk hB; have HR := Aside0.mk (HJ2.out.r.overT hk); clear hT hB hk)
      | (go_at_call 32; (with_reducible refine (r_Add HR.out HB.out (fun _ _ => trivial)).mono ?_); rintro e w3 ⟨rfl, hT, hB, hk⟩; have HR3 := Aside0.mk hT; have HB3 := Aside0.mk hB; have HT3 := Aside0.mk (HT.out.overR hk); clear hT hB hk))
    go_ret
    exact ⟨rfl, HT3.out, HR3.out, HB3.out⟩
  · have k0b : (k == 0) = false := beq_eq_false_iff_ne.2 k0
    rw [if_neg k0]
    clear k0
    by_cases k1 : k = 1
    · subst k1
      rw [if_pos rfl]
      go_enter Try.func15, Try.ntmps15
      go_wp2_with (first
        | (go_at_call 10; (with_reducible refine HF.out.mono ?_); rintro e w1 ⟨v, rfl, hR, hb⟩; obtain ⟨A1, c1, rfl, hc1, hC1⟩ := Kd.R_reads hR; have HBX2 := Aside0.mk (HBX.out.below hb); have q0 := HBX2.out.c0; have q1 := HBX2.out.c1; have HJ2 := Aside0.mk (HJ1.out.below hb); have HR2 := Aside0.mk hR; clear hR hb hC1))
      go_region_held3 (fun w' => w'.cell? ⟨w.heap.size, 1, none⟩ = some (.int .i64 n)) (go_keep) (first
        | (go_at_call 11; (with_reducible refine (t_Wait n A1 c1 us (J.drew HJ2.out).t (J.drew HJ2.out).b (fun _ _ => trivial) hc1 (Kd.R_reads' (Kd.R_drew HR2.out)).2.2 (by have := H12.out; omega)).mono ?_); rintro e w2 ⟨rfl, hT, hB, hk⟩; have HT := Aside0.mk hT; have HB := Aside0.mk hB; have HR := Aside0.mk ((J.drew HJ2.out).r.overT hk); have HBX3 := Aside0.mk (BoxD.keep (BoxD.drew HBX2.out) hk (by decide) (by decide)); have q3 := HBX3.out.c1; have HR4 := Aside0.mk (R_keepE (Kd.R_drew HR2.out) hk (fun q hq => ⟨ty_int (by decide) q hq, ty_int (by decide) q hq⟩)); clear hT hB hk)
        | (go_at_call 33; (with_reducible refine (r_Wait n A1 c1 us HR.out HB.out (fun _ _ => trivial) hc1 (Kd.R_reads' HR4.out).2.2 (by have := H12.out; omega)).mono ?_); rintro e w3 ⟨rfl, hT, hB, hk⟩; have HR3 := Aside0.mk hT; have HB3 := Aside0.mk hB; have HT3 := Aside0.mk (HT.out.overR hk); have HBX4 := Aside0.mk (BoxD.keep HBX3.out hk (by decide) (by decide)); have q4 := HBX4.out.c1; clear hT hB hk))
      all_goals go_wp2
      all_goals go_ret
      all_goals exact ⟨rfl, HT3.out, HR3.out, HB3.out⟩
    · have k1b : (k == 1) = false := beq_eq_false_iff_ne.2 k1
      rw [if_neg k1]
      clear k1
      by_cases k2 : k = 2
      · subst k2
        rw [if_pos rfl]
        have hL : (wakeR l n).length ≤ 8 := Nat.le_trans (ofTo_len _ _ _) HJ.out.t.2.1.1
        have HTW := Aside0.mk (fun (W : World) (hT : IsT (fun _ => True) w0 W gt l) (hB : Below w0.heap.size w0 W) => t_Wake n hT hB)
        have HRW := Aside0.mk (fun (W : World) (hT : IsR (fun _ => True) w0 W gr l) (hB : Below w0.heap.size w0 W) => r_Wake n hT hB)
        generalize wakeR l n = L at *
        have HL := Aside0.mk hL
        go_enter Try.func15, Try.ntmps15
        go_wp2_with (first
          | (go_at_call 10; (with_reducible refine HF.out.mono ?_); rintro e w1 ⟨v, rfl, hR, hb⟩; obtain ⟨A1, c1, rfl, hc1, hC1⟩ := Kd.R_reads hR; have HBX2 := Aside0.mk (HBX.out.below hb); have q0 := HBX2.out.c0; have q1 := HBX2.out.c1; have HJ2 := Aside0.mk (HJ1.out.below hb); clear hR hb hC1))
        go_region_held3 (fun w' => w'.cell? ⟨w.heap.size, 1, none⟩ = some (.int .i64 n)) (go_keep) (first
          | (go_at_call 12; (with_reducible refine (HTW.out _ (J.drew HJ2.out).t (J.drew HJ2.out).b).mono ?_); rintro e w2 ⟨u, rfl, hU, hT, hB, hk⟩; obtain ⟨A2, c2, rfl, hc2, hC2⟩ := Kd.R_reads hU; have HU := Aside0.mk hU; have HT := Aside0.mk hT; have HB := Aside0.mk hB; have HR := Aside0.mk ((J.drew HJ2.out).r.overT hk); have HBX3 := Aside0.mk (BoxD.keep (BoxD.drew HBX2.out) hk (by decide) (by decide)); have q3 := HBX3.out.c1; clear hT hB hk hU hC2)
          | (go_at_call 25; (with_reducible refine (HRW.out _ HR.out HB.out).mono ?_); rintro e w3 ⟨u2, rfl, hU2, hT, hB, hk⟩; obtain ⟨A3, c3, rfl, hc3, hC3⟩ := Kd.R_reads hU2; have HC3 := Aside0.mk hC3; have HR3 := Aside0.mk hT; have HB3 := Aside0.mk hB; have HT3 := Aside0.mk (HT.out.overR hk); have HBX4 := Aside0.mk (BoxD.keep HBX3.out hk (by decide) (by decide)); have q4 := HBX4.out.c1; have HU3 := Aside0.mk (R_keepE HU.out hk (fun q hq => ⟨ty_int (by decide) q hq, ty_int (by decide) q hq⟩)); clear hT hB hk hU2 hC3)
          | (go_at_call 17; (with_reducible refine (same_calls A2 A3 c2 c3 L _ (by have := HL.out; omega) hc2 hc3 (Kd.R_reads' HU3.out).2.2 HC3.out).mono ?_); rintro e w4 ⟨rfl, hd⟩; have HT4 := Aside0.mk (HT3.out.below hd.below); have HR4 := Aside0.mk (HR3.out.below hd.below); have HB4 := Aside0.mk (below_then HB3.out HB3.out.size hd.below); have HBX5 := Aside0.mk (HBX4.out.below hd.below); have q5 := HBX5.out.c1; clear hd))
        all_goals go_wp2
        all_goals go_ret
        all_goals exact ⟨rfl, HT4.out, HR4.out, HB4.out⟩
      · have k2b : (k == 2) = false := beq_eq_false_iff_ne.2 k2
        rw [if_neg k2]
        clear k2
        by_cases k3 : k = 3
        · subst k3
          rw [if_pos rfl]
          go_enter Try.func15, Try.ntmps15
          go_wp2_with (first
            | (go_at_call 10; (with_reducible refine HF.out.mono ?_); rintro e w1 ⟨v, rfl, hR, hb⟩; obtain ⟨A1, c1, rfl, hc1, hC1⟩ := Kd.R_reads hR; have HBX2 := Aside0.mk (HBX.out.below hb); have q0 := HBX2.out.c0; have q1 := HBX2.out.c1; have HJ2 := Aside0.mk (HJ1.out.below hb); clear hR hb hC1))
          go_region_held3 (fun w' => w'.cell? ⟨w.heap.size, 1, none⟩ = some (.int .i64 n)) (go_keep) (first
            | (go_at_call 23; (with_reducible refine (t_End n (J.drew HJ2.out).t (J.drew HJ2.out).b).mono ?_); rintro e w2 ⟨rfl, hT, hB, hk⟩; have HT := Aside0.mk hT; have HB := Aside0.mk hB; have HR := Aside0.mk ((J.drew HJ2.out).r.overT hk); have HBX3 := Aside0.mk (BoxD.keep (BoxD.drew HBX2.out) hk (by decide) (by decide)); have q3 := HBX3.out.c1; clear hT hB hk)
            | (go_at_call 24; (with_reducible refine (r_End n HR.out HB.out).mono ?_); rintro e w3 ⟨rfl, hT, hB, hk⟩; have HR3 := Aside0.mk hT; have HB3 := Aside0.mk hB; have HT3 := Aside0.mk (HT.out.overR hk); have HBX4 := Aside0.mk (BoxD.keep HBX3.out hk (by decide) (by decide)); have q4 := HBX4.out.c1; clear hT hB hk))
          all_goals go_wp2
          all_goals go_ret
          all_goals exact ⟨rfl, HT3.out, HR3.out, HB3.out⟩
        · have k3b : (k == 3) = false := beq_eq_false_iff_ne.2 k3
          rw [if_neg k3]
          clear k3
          go_enter Try.func15, Try.ntmps15
          go_wp2_with (first
            | (go_at_call 10; (with_reducible refine HF.out.mono ?_); rintro e w1 ⟨v, rfl, hR, hb⟩; obtain ⟨A1, c1, rfl, hc1, hC1⟩ := Kd.R_reads hR; have HBX2 := Aside0.mk (HBX.out.below hb); have q0 := HBX2.out.c0; have q1 := HBX2.out.c1; have HJ2 := Aside0.mk (HJ1.out.below hb); clear hR hb hC1))
          go_ret
          exact ⟨rfl, HJ2.out⟩
end
end Go.Proofs.Ytcndpclnjnbppaa.Q
