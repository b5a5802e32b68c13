import Derived.Test.YtcndpclnjnbppaaH7
import Derived.Outline
import Derived.Deep.DrawnRows
namespace Go.Proofs.Ytcndpclnjnbppaa.Q
open Go.RowKit Go.Proofs.YtcndpclnjnbppaaW.PrintWords Go.Proofs.YtcndpclnjnbppaaW.PrintLast Go.Proofs.YtcndpclnjnbppaaW.PrintMore
attribute [local go_sem ↓] Go.wp_at_zero Go.wp_at_succ
set_option linter.unusedVariables false
set_option linter.unusedSimpArgs false
section
variable {ok : Nat → Prop} {w0 w : World} {g : Nat} {l : List S54}
theorem below_undrew {B : Nat} {w W : World} (h : Below B w.drew W) : Below B w W := ⟨h.os, h.tape, h.output, h.size, h.block⟩
theorem keep1 {W : World} {b i : Nat} {x v : Value} (h : W.cell? ⟨g, 0, none⟩ = some v) (hne : g ≠ b) : (W.setCell ⟨b, i, none⟩ x).cell? ⟨g, 0, none⟩ = some v := by
  rw [World.cell?_setCell_other _ _ _ _ (fun e => hne (by injection e with e1; exact e1.symm))]
  exact h
theorem keep2 {W : World} {b i j : Nat} {x y v : Value} (h : W.cell? ⟨g, 0, none⟩ = some v) (hne : g ≠ b) : ((W.setCell ⟨b, i, none⟩ x).setCell ⟨b, j, none⟩ y).cell? ⟨g, 0, none⟩ = some v := keep1 (keep1 h hne) hne
theorem keep3 {W : World} {b i j k : Nat} {x y z v : Value} (h : W.cell? ⟨g, 0, none⟩ = some v) (hne : g ≠ b) : (((W.setCell ⟨b, i, none⟩ x).setCell ⟨b, j, none⟩ y).setCell ⟨b, k, none⟩ z).cell? ⟨g, 0, none⟩ = some v := keep1 (keep2 h hne) hne
theorem IsT.ne {b c m : Nat} (hI : IsT ok w0 w g l) (hp : 0 < l.length) (hc : w.cell? ⟨g, 0, none⟩ = some (.slice (some ⟨b, 0, none⟩) m c)) : g ≠ b := by
  obtain ⟨_, _, v, hv, hr⟩ := hI
  obtain ⟨b2, c2, rfl, _, _, cs, hcs⟩ := row_form hr hp
  rw [(blk_cell hv 0).trans rfl] at hc
  injection hc with hc
  injection hc with hc
  injection hc with hc
  injection hc with hc
  subst hc
  exact blk_ne hv hcs (by decide)
theorem IsR.ne {b c m : Nat} (hI : IsR ok w0 w g l) (hp : 0 < l.length) (hc : w.cell? ⟨g, 0, none⟩ = some (.slice (some ⟨b, 0, none⟩) m c)) : g ≠ b := by
  obtain ⟨_, _, v, hv, hr⟩ := hI
  obtain ⟨b2, c2, rfl, _, _, cs, hcs⟩ := row_form hr hp
  rw [(blk_cell hv 0).trans rfl] at hc
  injection hc with hc
  injection hc with hc
  injection hc with hc
  injection hc with hc
  subst hc
  exact blk_ne hv hcs (by decide)
/-- The element behind a call that makes memory: at the places known before. -/
theorem IsT.elem2 {w1 : World} {b c : Nat} (hI : IsT ok w0 w g l) (hB : Below w0.heap.size w0 w) (hb : Below w.heap.size w w1) (i : Int) (h0 : 0 ≤ i) (h1 : i < (l.length : Int)) (hc : w.cell? ⟨g, 0, none⟩ = some (.slice (some ⟨b, 0, none⟩) l.length c)) :
    w1.cell? ⟨g, 0, none⟩ = some (.slice (some ⟨b, 0, none⟩) l.length c) ∧ ∃ v1, w1.cell? ⟨b, i.toNat * 2, none⟩ = some (.int .i64 (rd_T54 l i).f0) ∧ w1.cell? ⟨b, i.toNat * 2 + 1, none⟩ = some v1 ∧ w1.frozen? ⟨b, i.toNat * 2, none⟩ = false ∧ w1.frozen? ⟨b, i.toNat * 2 + 1, none⟩ = false ∧
      ∀ (x' : S54) (v' : Value) (okp : Nat → Prop), OkX x' → Kd.R (Kd.int .i64) 3 w1 w0.heap.size okp v' x'.f1 → (∀ k, okp k → ok k) → IsT ok w0 ((w1.setCell ⟨b, i.toNat * 2, none⟩ (.int .i64 x'.f0)).setCell ⟨b, i.toNat * 2 + 1, none⟩ v') g (l.set i.toNat x') ∧ KeepE 52 54 w ((w1.setCell ⟨b, i.toNat * 2, none⟩ (.int .i64 x'.f0)).setCell ⟨b, i.toNat * 2 + 1, none⟩ v') ∧ Below w0.heap.size w0 ((w1.setCell ⟨b, i.toNat * 2, none⟩ (.int .i64 x'.f0)).setCell ⟨b, i.toNat * 2 + 1, none⟩ v') := by
  obtain ⟨b2, c2, v1, q0, q1, q2, q3, q4, q5, q6⟩ := (hI.below hb).elem (below_then hB hB.size hb) i h0 h1
  have e := pw_cell_below hb hc
  rw [e] at q0
  injection q0 with q0
  injection q0 with q0 _ q7
  injection q0 with q0
  injection q0 with q0
  subst q0; subst q7
  refine ⟨e, v1, q2, q3, q4, q5, fun x' v' okp hx hR ho => ?_⟩
  obtain ⟨r1, r2, r3⟩ := q6 x' v' okp hx hR ho
  exact ⟨r1, (KeepE.of_below hb).trans r2, r3⟩
set_option maxHeartbeats 4000000 in
theorem t_Wait (n : Int) (A : Option Addr) (ca : Nat) (vs : List Int) (hI : IsT ok w0 w g l) (hB : Below w0.heap.size w0 w) (hok : ∀ k, w.heap.size ≤ k → ok k) (hca : vs.length ≤ ca) (hC : Kd.C (Kd.int .i64) w A vs.length vs) (hl : vs.length ≤ 1000) :
    Calls Try.prog 11 #[.pointer (some ⟨g, 0, none⟩), .int .i64 n, .slice A vs.length ca] w fun e w' => e = .returned (.int .i64 (waitR l n)) ∧ IsT ok w0 w' g (waitL l n vs) ∧ Below w0.heap.size w0 w' ∧ KeepE 52 54 w w' := by
  have HI := Aside0.mk hI
  have HB := Aside0.mk hB
  have HC := Aside0.mk hC
  have HOK := Aside0.mk hok
  have HL := Aside0.mk hl
  have hu50 := Try.underlying50
  have hu52 := Try.underlying52
  have hu54 := Try.underlying54
  unfold waitR waitL
  have T0 := Aside0.mk (t_is n 0 HI.out)
  by_cases h : tIs l n 0 = true
  · rw [if_pos h, if_pos h]
    rw [h] at T0
    have hn : 0 ≤ n ∧ n < (l.length : Int) := by
      unfold tIs at h
      simp at h
      exact ⟨h.1, h.2.1⟩
    obtain ⟨h0, h1⟩ := hn
    obtain ⟨b, c, v1, hc0, hf0, hx0, hx1, hz0, hz1, hst⟩ := hI.elem hB n h0 h1
    have d0 := decide_eq_true h0
    have d1 := decide_eq_true h1
    have H0 := Aside0.mk h0
    have H1 := Aside0.mk h1
    have HC0 := Aside0.mk hc0
    have hgb := hI.ne (by omega) hc0
    clear hI hB hst hC hok h hx0 hx1 hz0 hz1 hl
    go_enter Try.func11, Try.ntmps11
    go_wp2_with (go_at_call 26; (with_reducible refine T0.out.mono ?_); rintro e w' ⟨rfl, rfl⟩)
    go_region_held3 (fun w' => w'.cell? ⟨g, 0, none⟩ = some (.slice (some ⟨b, 0, none⟩) l.length c)) (first | go_keep | exact keep2 (by assumption) hgb) (first | (go_at_call 27; (with_reducible refine (t_Clone A ca vs hca (Kd.C_drew HC.out) (by have := HL.out; omega)).mono ?_); rintro e w2 ⟨u, rfl, hR, hb⟩; obtain ⟨Au, cu, rfl, hcu, hCu⟩ := Kd.R_reads hR; obtain ⟨q0, v1, q1, q2, q3, q4, q5⟩ := HI.out.elem2 HB.out (below_undrew hb) n H0.out H1.out HC0.out; obtain ⟨s1, s2, s3⟩ := q5 ⟨1, vs⟩ _ (fun k => w'.heap.size ≤ k) ⟨.inr (.inl rfl), HL.out⟩ (Kd.R_lower (Kd.R_mono (Kd.R_bound hR) (fun k hk => hk.2.1)) HB.out.size) HOK.out; have S1 := Aside0.mk s1; have S2 := Aside0.mk s2; have S3 := Aside0.mk s3; clear s1 s2 s3 q5 hR hb hcu hCu))
    all_goals go_wp2
    all_goals go_ret
    all_goals exact ⟨rfl, S1.out, S3.out, S2.out⟩
  · rw [if_neg h, if_neg h]
    rw [Bool.eq_false_iff.2 h] at T0
    clear hI hB hC hok h
    go_enter Try.func11, Try.ntmps11
    go_wp2_with (go_at_call 26; (with_reducible refine T0.out.mono ?_); rintro e w' ⟨rfl, rfl⟩)
    go_ret
    exact ⟨rfl, HI.out, HB.out, KeepE.refl _⟩
end
end Go.Proofs.Ytcndpclnjnbppaa.Q
