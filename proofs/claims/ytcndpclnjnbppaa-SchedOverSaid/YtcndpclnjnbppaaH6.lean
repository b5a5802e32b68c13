import Derived.Test.YtcndpclnjnbppaaH5
import Derived.Outline
namespace Go.Proofs.Ytcndpclnjnbppaa.Q
open Go.RowKit Go.Proofs.YtcndpclnjnbppaaW.PrintWords Go.Proofs.YtcndpclnjnbppaaW.PrintLast Go.Proofs.YtcndpclnjnbppaaW.PrintMore
set_option linter.unusedVariables false
set_option linter.unusedSimpArgs false
section
variable {ok : Nat → Prop} {w0 w : World} {g : Nat} {l : List S54}
set_option maxHeartbeats 2000000 in
/-- slices.Clone. -/
theorem t_Clone (A : Option Addr) (c : Nat) (vs : List Int) (hc : vs.length ≤ c) (hC : Kd.C (Kd.int .i64) w A vs.length vs) (hl : vs.length ≤ 100000) : Calls Try.prog 27 #[.slice A vs.length c] w fun e w' => ∃ v, e = .returned v ∧ Kd.R (Kd.int .i64) 3 w' w.heap.size (fun _ => True) v vs ∧ Below w.heap.size w w' := by
  have HC := Aside0.mk hC
  have hr := Go.Lib.run_eql_slice_nil (P := Try.prog) w 22 3 A vs.length c 0 0 Try.underlying22
  cases A with
  | none =>
    have h0 : vs = [] := by
      have := Kd.reads_of_C (d := (0 : Int)) hC
      rcases Nat.eq_zero_or_pos vs.length with h | h
      · exact List.eq_nil_of_length_eq_zero h
      · obtain ⟨_, e, _⟩ := this.2.2 h
        cases e
    subst h0
    simp only [Option.isNone_none, List.length_nil] at hr
    clear hC
    go_enter Try.func27, Try.ntmps27
    go_wp2
    go_ret
    exact ⟨_, rfl, Kd.R_nil _ _ _ _ _, Below.refl _ _⟩
  | some ad =>
    simp only [Option.isNone_some] at hr
    have HL := Aside0.mk hl
    clear hC
    go_enter Try.func27, Try.ntmps27
    go_wp2_with (first
      | ((with_reducible refine gate_dst (N := 5) rfl ?_); refine Kd.R_lit (Kd.int .i64) (w0 := w) w.heap.size 3 ?hg (N := 5) ?hd (xs := ([] : List Int)) (inner := []) (ok := fun _ => True) (okp := fun _ => True) ?hr (Reps.none _ _) (fun _ hk => hk) trivial (Below.refl _ _) (Nat.le_refl _) (by simp) ?_; (case hd => rfl); (case hg => rfl); (case hr => first | (go_simp; done) | (go_simp; rfl)); intro v1 w1 ho hb hg_ hnew_; have HO := Aside0.mk ho; have HB := Aside0.mk hb; clear ho hb hg_ hnew_)
      | ((with_reducible refine gate_builtin (b := .append) (xs := #[.tmp 5, .tmp 6]) rfl ?_); at_builtin; refine Kd.R_append_row (Value.int .i64) (0 : Int) (w0 := w) w.heap.size rfl (.tmp 5) (.tmp 6) 22 3 (.int .i64 0) 8 rfl Try.underlying22 info3 rfl (by omega) v1 [] vs (some ad) vs.length c (fun _ => True) rfl rfl (fun _ _ => trivial) HO.out (Kd.C_below HC.out HB.out) HB.out (below_size HB.out) (by have := HL.out; simp; omega) ?_; intro v2 w2 ho hb _ _; have HO2 := Aside0.mk ho; have HB2 := Aside0.mk hb; clear ho hb))
    go_ret
    exact ⟨_, rfl, HO2.out, HB2.out⟩
set_option maxHeartbeats 2000000 in
theorem t_End (n : Int) (hI : IsT ok w0 w g l) (hB : Below w0.heap.size w0 w) : Calls Try.prog 23 #[.pointer (some ⟨g, 0, none⟩), .int .i64 n] w fun e w' => e = .returned (.int .i64 (endR l n)) ∧ IsT ok w0 w' g (endL l n) ∧ Below w0.heap.size w0 w' ∧ KeepE 52 54 w w' := by
  have HI := Aside0.mk hI
  have HB := Aside0.mk hB
  have hu50 := Try.underlying50
  have hu52 := Try.underlying52
  have hu54 := Try.underlying54
  unfold endR endL
  by_cases h : (tIs l n 0 || tIs l n 1) = true
  · rw [if_pos h, if_pos h]
    have hn : 0 ≤ n ∧ n < (l.length : Int) := by
      rw [Bool.or_eq_true] at h
      unfold tIs at h
      rcases h with h | h <;> simp at h <;> exact ⟨h.1, h.2.1⟩
    obtain ⟨h0, h1⟩ := hn
    obtain ⟨b, c, v1, hc0, hf0, hx0, hx1, hz0, hz1, hst⟩ := hI.elem hB n h0 h1
    obtain ⟨s1, s2, s3⟩ := hst ⟨2, []⟩ (.slice none 0 0) (fun _ => False) ⟨.inr (.inr rfl), by simp⟩ (Kd.R_nil _ _ _ _ _) (fun _ hk => hk.elim)
    have S1 := Aside0.mk s1
    have S2 := Aside0.mk s2
    have S3 := Aside0.mk s3
    have d0 := decide_eq_true h0
    have d1 := decide_eq_true h1
    clear hI hB hst s1 s2 s3
    rcases Bool.eq_false_or_eq_true (tIs l n 0) with t0 | t0
    · have T0 := Aside0.mk (t_is n 0 HI.out)
      rw [t0] at T0
      clear t0 h
      go_enter Try.func23, Try.ntmps23
      go_wp2_with (go_at_call 26; (with_reducible refine T0.out.mono ?_); rintro e w' ⟨rfl, rfl⟩)
      go_ret
      exact ⟨rfl, S1.out, S3.out, S2.out⟩
    · have t1 : tIs l n 1 = true := by simpa [t0] using h
      have T0 := Aside0.mk (t_is n 0 HI.out)
      rw [t0] at T0
      have T1 := Aside0.mk (t_is n 1 HI.out)
      rw [t1] at T1
      clear h t0 t1
      go_enter Try.func23, Try.ntmps23
      go_wp2_with (go_at_call 26; first | ((with_reducible refine T0.out.mono ?_); rintro e w' ⟨rfl, rfl⟩) | ((with_reducible refine T1.out.mono ?_); rintro e w' ⟨rfl, rfl⟩))
      go_ret
      exact ⟨rfl, S1.out, S3.out, S2.out⟩
  · rw [if_neg h, if_neg h]
    have h' := Bool.eq_false_iff.2 h
    rw [Bool.or_eq_false_iff] at h'
    obtain ⟨t0, t1⟩ := h'
    have T0 := Aside0.mk (t_is n 0 HI.out)
    rw [t0] at T0
    have T1 := Aside0.mk (t_is n 1 HI.out)
    rw [t1] at T1
    clear hI hB h t0 t1
    go_enter Try.func23, Try.ntmps23
    go_wp2_with (go_at_call 26; first | ((with_reducible refine T0.out.mono ?_); rintro e w' ⟨rfl, rfl⟩) | ((with_reducible refine T1.out.mono ?_); rintro e w' ⟨rfl, rfl⟩))
    go_ret
    exact ⟨rfl, HI.out, HB.out, KeepE.refl _⟩
end
end Go.Proofs.Ytcndpclnjnbppaa.Q
