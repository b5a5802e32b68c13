import Derived.Test.YtcndpclnjnbppaaH3
namespace Go.Proofs.Ytcndpclnjnbppaa.Q
open Go.RowKit Go.Proofs.YtcndpclnjnbppaaW.PrintWords Go.Proofs.YtcndpclnjnbppaaW.PrintLast Go.Proofs.YtcndpclnjnbppaaW.PrintMore
set_option linter.unusedVariables false
set_option linter.unusedSimpArgs false
section
variable {ok : Nat → Prop} {w0 w : World} {g : Nat} {l : List S54}
set_option maxHeartbeats 1000000 in
theorem t_Len (hI : IsT ok w0 w g l) : Calls Try.prog 22 #[.pointer (some ⟨g, 0, none⟩)] w fun e w' => e = .returned (.int .i64 (l.length : Int)) ∧ w' = w := by
  obtain ⟨A, c, hc, hf, hlc, hC⟩ := hI.open_
  have hu50 := Try.underlying50
  clear hC hI
  go_enter Try.func22, Try.ntmps22
  go_wp2
  go_ret
  exact ⟨rfl, rfl⟩
set_option maxHeartbeats 1000000 in
theorem t_Ready (hI : IsT ok w0 w g l) : Calls Try.prog 13 #[.pointer (some ⟨g, 0, none⟩)] w fun e w' => ∃ v, e = .returned v ∧ Kd.R (Kd.int .i64) 3 w' w.heap.size (fun _ => True) v (tReady l) ∧ Below w.heap.size w w' := by
  have HI := Aside0.mk hI
  obtain ⟨A, c, hc, hf, hlc, hC⟩ := hI.open_
  have HC := Aside0.mk hC
  have h8 := Aside0.mk hI.2.1.1
  clear hC hI
  go_enter Try.func13, Try.ntmps13
  go_wp2_with (go_at_call 28; refine (t_of isReady 31 Try.f31 #[] Try.func31 (by kernel_rfl) rfl g l A c _ hc hlc HC.out h8.out (fun x A c W _ _ h1 h2 => (sched_Table_Ready_1.calls x.f0 A c x.f1 (isReady x) W h2 h1 rfl))).mono ?_; rintro e w' ⟨v, rfl, hR, hB⟩; have HR := Aside0.mk hR; have HB := Aside0.mk hB; clear hR hB)
  go_ret
  exact ⟨_, rfl, HR.out, HB.out⟩
set_option maxHeartbeats 1000000 in
theorem t_is (n k : Int) (hI : IsT ok w0 w g l) : Calls Try.prog 26 #[.pointer (some ⟨g, 0, none⟩), .int .i64 n, .int .i64 k] w fun e w' => e = .returned (.bool (tIs l n k)) ∧ w' = w := by
  obtain ⟨A, c, hc, hf, hlc, hC⟩ := hI.open_
  have hu50 := Try.underlying50
  have hu54 := Try.underlying54
  have HC := Aside0.mk hC
  clear hC hI
  by_cases h0 : 0 ≤ n
  · have d0 := decide_eq_true h0
    by_cases h1 : n < (l.length : Int)
    · have d1 := decide_eq_true h1
      obtain ⟨ad, A1, c1, e, hx0, hx1, _, _⟩ := at_T54 HC.out n h0 h1
      cases e
      have e1 : tIs l n k = ((rd_T54 l n).f0 == k) := by simp [tIs, d0, d1]
      rw [e1]
      clear e1
      go_enter Try.func26, Try.ntmps26
      go_wp2
      go_ret
      exact ⟨rfl, rfl⟩
    · have d1 := decide_eq_false h1
      have e1 : tIs l n k = false := by simp [tIs, d0, d1]
      rw [e1]
      clear e1
      go_enter Try.func26, Try.ntmps26
      go_wp2
      go_ret
      exact ⟨rfl, rfl⟩
  · have d0 := decide_eq_false h0
    have e1 : tIs l n k = false := by simp [tIs, d0]
    rw [e1]
    clear e1
    go_enter Try.func26, Try.ntmps26
    go_wp2
    go_ret
    exact ⟨rfl, rfl⟩
theorem abs_wrap (k : Int) (h1 : -9223372036854775808 ≤ k) (h2 : k ≤ 9223372036854775807) (h : k < 0) : wrap64 (-(wrap64 (k + 1))) = absK k := by
  rw [IntWalk.wrap64_in (k + 1) ⟨by omega, by omega⟩, IntWalk.wrap64_in _ ⟨by omega, by omega⟩]
  unfold absK
  rw [if_pos h]
theorem tmod_in (a : Int) (n : Nat) (ha : 0 ≤ a) (hn : 0 < n) : 0 ≤ Int.tmod a n ∧ Int.tmod a n < (n : Int) := ⟨Int.tmod_nonneg _ ha, Int.tmod_lt_of_pos _ (by omega)⟩
theorem absK_pos (k : Int) : 0 ≤ absK k := by unfold absK; split <;> omega
set_option maxHeartbeats 2000000 in
theorem t_Pick (k : Int) (h1 : -9223372036854775808 ≤ k) (h2 : k ≤ 9223372036854775807) (hI : IsT ok w0 w g l) : Calls Try.prog 16 #[.pointer (some ⟨g, 0, none⟩), .int .i64 k] w fun e w' => e = .returned (.tuple #[.int .i64 (pickR l k).1, .bool (pickR l k).2]) ∧ Below w.heap.size w w' := by
  have HI := Aside0.mk hI
  clear hI
  have hu22 := Try.underlying22
  unfold pickR
  by_cases h0 : tReady l = []
  · rw [if_pos h0]
    go_enter Try.func16, Try.ntmps16
    go_wp2_with (go_at_call 13; refine (t_Ready HI.out).mono ?_; rintro e w' ⟨v, rfl, hR, hB⟩; rw [h0] at hR; obtain ⟨A, c, rfl, hc, hC⟩ := Kd.R_reads hR; have HB := Aside0.mk hB; clear hR hC hB)
    go_ret2
    exact ⟨rfl, HB.out⟩
  · rw [if_neg h0]
    have hp : 0 < (tReady l).length := List.length_pos_iff.2 h0
    have hpn : ¬ (tReady l).length = 0 := by omega
    have hm := tmod_in (absK k) (tReady l).length (absK_pos k) hp
    generalize hq : Int.tmod (absK k) (tReady l).length = q at hm ⊢
    have HQ := Aside0.mk hq
    obtain ⟨m1, m2⟩ := hm
    clear h0 hq
    by_cases hk : k < 0
    · have hw : Int.tmod (absK k) (tReady l).length = -(Int.tmod (k + 1) (tReady l).length) := by unfold absK; rw [if_pos hk, Int.neg_tmod]
      rw [hw] at HQ
      clear hw
      obtain rfl := HQ.out
      clear HQ
      have m3 : Int.tmod (k + 1) (tReady l).length ≤ 0 := by omega
      go_enter Try.func16, Try.ntmps16
      go_wp2_with (go_at_call 13; refine (t_Ready HI.out).mono ?_; rintro e w' ⟨v, rfl, hR, hB⟩; obtain ⟨A, c, rfl, hc, hC⟩ := Kd.R_reads hR; have HB := Aside0.mk hB; obtain ⟨ad, e, hx⟩ := Kd.at_int hC _ m1 m2; cases e; clear hR hC hB)
      go_ret2
      exact ⟨rfl, HB.out⟩
    · have hw : absK k = k := by unfold absK; rw [if_neg hk]
      rw [hw] at HQ
      clear hw
      go_enter Try.func16, Try.ntmps16
      go_wp2_with (go_at_call 13; refine (t_Ready HI.out).mono ?_; rintro e w' ⟨v, rfl, hR, hB⟩; obtain ⟨A, c, rfl, hc, hC⟩ := Kd.R_reads hR; have HB := Aside0.mk hB; have HQ2 := HQ.out; obtain ⟨ad, e, hx⟩ := Kd.at_int hC q m1 m2; cases e; clear hR hC hB)
      go_ret2
      exact ⟨rfl, HB.out⟩
set_option maxHeartbeats 2000000 in
theorem t_Status (hI : IsT ok w0 w g l) : Calls Try.prog 20 #[.pointer (some ⟨g, 0, none⟩)] w fun e w' => e = .returned (.int .i64 (statusR l)) ∧ Below w.heap.size w w' := by
  have HI := Aside0.mk hI
  have h8 := hI.2.1.1
  have HF := Aside0.mk (containsf_f l (by omega))
  clear hI
  unfold statusR
  by_cases h0 : tReady l = []
  · rw [if_pos h0]
    by_cases h1 : l.any isWaits = true
    all_goals first | (rw [if_pos h1]; rw [h1] at HF) | (rw [if_neg h1]; rw [Bool.eq_false_iff.2 h1] at HF)
    all_goals go_enter Try.func20, Try.ntmps20
    all_goals go_wp2_with (first
      | (go_at_call 13; refine (t_Ready HI.out).mono ?_; rintro e w' ⟨v, rfl, hR, hB⟩; rw [h0] at hR; obtain ⟨A, c, rfl, hc, hC⟩ := Kd.R_reads hR; have HI2 := Aside0.mk (HI.out.below hB); have HB := Aside0.mk hB; clear hR hC hB; obtain ⟨A2, c2, hc2, hf2, hlc2, hC2⟩ := HI2.out.open_; have HC2 := Aside0.mk hC2; clear hC2)
      | (go_at_call 34; refine (sched_thread_34.calls (l.length + 1) A2 c2 l _ _ HC2.out hlc2 HF.out).mono ?_; rintro e w' ⟨rfl, hb⟩; have HB3 := Aside0.mk (below_step HB.out hb); clear hb))
    all_goals go_ret
    all_goals exact ⟨rfl, HB3.out⟩
  · rw [if_neg h0]
    have hp : 0 < (tReady l).length := List.length_pos_iff.2 h0
    clear h0
    go_enter Try.func20, Try.ntmps20
    go_wp2_with (go_at_call 13; refine (t_Ready HI.out).mono ?_; rintro e w' ⟨v, rfl, hR, hB⟩; obtain ⟨A, c, rfl, hc, hC⟩ := Kd.R_reads hR; have HB := Aside0.mk hB; clear hR hC hB)
    go_ret
    exact ⟨rfl, HB.out⟩
end
end Go.Proofs.Ytcndpclnjnbppaa.Q
