import Derived.Test.YtcndpclnjnbppaaH17
import Derived.Outline
namespace Go.Proofs.Ytcndpclnjnbppaa.Q
open Go.RowKit Go.Proofs.YtcndpclnjnbppaaW.PrintWords Go.Proofs.YtcndpclnjnbppaaW.PrintLast Go.Proofs.YtcndpclnjnbppaaW.PrintMore
set_option linter.unusedVariables false
set_option linter.unusedSimpArgs false
theorem wait_one (us : List Int) : waitR [z54] 0 = 0 ∧ waitL [z54] 0 us = [⟨1, us⟩] := ⟨rfl, rfl⟩
theorem wake_yes (us : List Int) (v : Int) (h : us.contains v = true) : wakeR [⟨1, us⟩] v = [0] ∧ wakeL [⟨1, us⟩] v = [z54] := by
  have hw : waitsFor v ⟨1, us⟩ = true := by unfold waitsFor; rw [h]; rfl
  refine ⟨?_, ?_⟩
  · unfold wakeR tOf ofTo
    have e : (List.range [(⟨1, us⟩ : S54)].length) = [0] := rfl
    rw [e, List.filter_cons, List.filter_nil]
    change List.map _ (if waitsFor v ⟨1, us⟩ = true then [0] else []) = [0]
    rw [hw]
    rfl
  · unfold wakeL
    rw [List.map_cons, List.map_nil, hw]
    rfl
theorem wake_no (us : List Int) (v : Int) (h : us.contains v = false) : wakeR [⟨1, us⟩] v = [] ∧ wakeL [⟨1, us⟩] v = [⟨1, us⟩] := by
  have hw : waitsFor v ⟨1, us⟩ = false := by unfold waitsFor; rw [h]; rfl
  refine ⟨?_, ?_⟩
  · unfold wakeR tOf ofTo
    have e : (List.range [(⟨1, us⟩ : S54)].length) = [0] := rfl
    rw [e, List.filter_cons, List.filter_nil]
    change List.map _ (if waitsFor v ⟨1, us⟩ = true then [0] else []) = []
    rw [hw]
    rfl
  · unfold wakeL
    rw [List.map_cons, List.map_nil, hw]
    rfl
set_option maxHeartbeats 8000000 in
set_option maxRecDepth 100000 in
theorem selvagelaw19_SchedOwns.calls (A : Option Addr) (c : Nat) (vs : List Int) (v : Int) (w : World) (hC : Kd.C (Kd.int .i64) w A vs.length vs) (hc : vs.length ≤ c) (k1 : -9223372036854775808 ≤ v) (k2 : v ≤ 9223372036854775807) :
    Calls Try.prog 3 #[.slice A vs.length c, .int .i64 v] w fun e w' => e = .returned (.bool true) ∧ Below w.heap.size w w' := by
  have HC := Aside0.mk hC
  have hu22 := Try.underlying22
  have h12 : (vs.take 12).length ≤ 12 := by rw [List.length_take]; omega
  have HF := Aside0.mk (fun (W : World) (h : Kd.C (Kd.int .i64) W A vs.length vs) => few_calls A c vs W hc h)
  generalize vs.take 12 = us at *
  clear hC k1 k2
  go_enter Try.func3, Try.ntmps3
  go_upto_block 0 with (first
    | (go_at_call 8; (with_reducible refine (v_New w).mono ?_); rintro e w1 ⟨g, rfl, hI, hB⟩; have HI1 := Aside0.mk hI; have HB1 := Aside0.mk hB; clear hI hB)
    | (go_at_call 9; (with_reducible refine (v_Add1 g _ HI1.out HB1.out).mono ?_); rintro e w2 ⟨rfl, hI, hB⟩; have HI2 := Aside0.mk hI; have HB2 := Aside0.mk hB; clear hI hB)
    | (go_at_call 10; (with_reducible refine (HF.out _ (Kd.C_below HC.out HB2.out)).mono ?_); rintro e w3 ⟨u, rfl, hR, hb⟩; obtain ⟨A1, c1, rfl, hc1, hC1⟩ := Kd.R_reads hR; have HI3 := Aside0.mk ((HI2.out.bound.mono (ok' := fun k => k < w2.heap.size ∨ w3.heap.size ≤ k) (fun k hk => .inl hk.2)).below hb); have HG := Aside0.mk HI2.out.lt; have HOB := Aside0.mk (fun k hk => And.intro (Kd.R_base hR k hk) (Kd.R_lt hR k hk)); have HB3 := Aside0.mk (below_then HB2.out HB2.out.size hb); have HR3 := Aside0.mk hR; clear hR hb hC1)
    | (go_at_call 11; (with_reducible refine (t_Wait 0 A1 c1 us HI3.out HB3.out (fun k hk => .inr hk) hc1 (Kd.R_reads' HR3.out).2.2 (by omega)).mono ?_); rintro e w4 ⟨rfl, hI, hB, hk⟩; have HI4 := Aside0.mk hI; have HB4 := Aside0.mk hB; have HR4 := Aside0.mk (R_keepE HR3.out hk (fun q hq => ⟨ty_int (by decide) q hq, ty_int (by decide) q hq⟩)); clear hI hB hk))
  rw [(wait_one us).2] at HI4
  go_wp2
  go_loopg [7, 8] us.length (fun kq v7 v8 w' => ∃ (i : Nat) (b : Bool) (ys : List Int), v7 = .bool b ∧ v8 = .int .i64 (i : Int) ∧ Aside0 (i + kq = us.length) ∧ Aside0 (b = (us.take i).contains v) ∧ Aside0 (ys.length = us.length ∧ ∀ j : Nat, i ≤ j → rd ys (j : Int) = rd us (j : Int)) ∧ Aside0 (Kd.R (Kd.int .i64) 3 w' w2.heap.size (fun _ => True) (.slice A1 us.length c1) ys) ∧ Aside0 (IsT (fun k => k < w2.heap.size ∨ w3.heap.size ≤ k) w w' g [⟨1, us⟩]) ∧ Aside0 (Below w.heap.size w w'))
  case atStart => exact ⟨0, false, us, rfl, rfl, ⟨by omega⟩, ⟨rfl⟩, ⟨rfl, fun _ _ => rfl⟩, HR4, HI4, HB4⟩
  case round =>
    obtain ⟨i, b, ys, rfl, rfl, HK, HBV, HY, HR, HI, HB⟩ := hrel
    cases gk with
    | zero =>
      have hd : decide (i < us.length) = false := decide_eq_false (by have := HK.out; omega)
      have hb : b = us.contains v := by rw [HBV.out, List.take_of_length_le (by have := HK.out; omega)]
      have HWK := Aside0.mk (t_Wake v HI.out HB.out)
      cases b
      · have hz := wake_no us v hb.symm
        rw [hz.1, hz.2] at HWK
        have HRD : Aside0 (tReady [⟨1, us⟩] = []) := ⟨rfl⟩
        clear hz hb
        ·
          go_wp2_with (first
            | (go_at_call 12; (with_reducible refine HWK.out.mono ?_); rintro e w5 ⟨u, rfl, hR, hI, hB, hk⟩; obtain ⟨A5, c5, rfl, hc5, hC5⟩ := Kd.R_reads hR; have HI5 := Aside0.mk hI; have HB5 := Aside0.mk hB; clear hR hI hB hk hC5)
            | (go_at_call 13; (with_reducible refine (t_Ready HI5.out).mono ?_); rintro e w6 ⟨u, rfl, hR, hb⟩; rw [HRD.out] at hR; obtain ⟨A6, c6, rfl, hc6, hC6⟩ := Kd.R_reads hR; have HB6 := Aside0.mk (below_then HB5.out HB5.out.size hb); clear hR hb hC6)
            | (go_at_call 14; (with_reducible refine (lives_calls _).mono ?_); rintro e w7 ⟨rfl, hB⟩; have HB7 := Aside0.mk (below_then HB6.out HB6.out.size hB); clear hB))
          go_ret
          exact ⟨rfl, HB7.out⟩
      · have hz := wake_yes us v hb.symm
        rw [hz.1, hz.2] at HWK
        have HRD : Aside0 (tReady [z54] = [0]) := ⟨rfl⟩
        clear hz hb
        ·
          go_wp2_with (first
            | (go_at_call 12; (with_reducible refine HWK.out.mono ?_); rintro e w5 ⟨u, rfl, hR, hI, hB, hk⟩; obtain ⟨A5, c5, rfl, hc5, hC5⟩ := Kd.R_reads hR; have HI5 := Aside0.mk hI; have HB5 := Aside0.mk hB; clear hR hI hB hk hC5)
            | (go_at_call 13; (with_reducible refine (t_Ready HI5.out).mono ?_); rintro e w6 ⟨u, rfl, hR, hb⟩; rw [HRD.out] at hR; obtain ⟨A6, c6, rfl, hc6, hC6⟩ := Kd.R_reads hR; have HB6 := Aside0.mk (below_then HB5.out HB5.out.size hb); clear hR hb hC6)
            | (go_at_call 14; (with_reducible refine (lives_calls _).mono ?_); rintro e w7 ⟨rfl, hB⟩; have HB7 := Aside0.mk (below_then HB6.out HB6.out.size hB); clear hB))
          go_ret
          exact ⟨rfl, HB7.out⟩
    | succ k1 =>
      have hi : i < us.length := by have := HK.out; omega
      have hd : decide (i < us.length) = true := decide_eq_true hi
      obtain ⟨hyl, hyr⟩ := HY.out
      obtain ⟨bb, cb, e, hbb, _, cs, hcs⟩ := row_form HR.out (by omega)
      injection e with e1 e2 e3
      subst e1; subst e3
      have hR' : Kd.R (Kd.int .i64) 3 wr w2.heap.size (fun _ => True) (.slice (some ⟨bb, 0, none⟩) ys.length c1) ys := by rw [hyl]; exact HR.out
      obtain ⟨hx, hz⟩ := Kd.R_cell (0 : Int) hR' (i : Int) (by omega) (by omega)
      replace hx : wr.cell? ⟨bb, i, none⟩ = some (.int .i64 (rd us (i : Int))) := by rw [← hyr i (Nat.le_refl _)]; exact hx
      rw [Int.toNat_natCast] at hz
      obtain ⟨hp1, hp2⟩ := Kd.R_put hR' (i : Int) (wrap64 (v + 1))
      rw [Int.toNat_natCast] at hp1 hp2
      have ho := HOB.out bb (by simp [Value.ownBlock])
      have HP1 : Aside0 (Kd.R (Kd.int .i64) 3 (wr.setCell ⟨bb, i, none⟩ (.int .i64 (wrap64 (v + 1)))) w2.heap.size (fun _ => True) (.slice (some ⟨bb, 0, none⟩) us.length c1) (ys.set i (wrap64 (v + 1)))) := ⟨by have h := hp1; rw [hyl] at h; exact h⟩
      have HP2 := Aside0.mk (HI.out.grown hp2 (fun k hk he => by injection he with he; omega) (fun he => by injection he with he; have := HG.out; omega))
      have HP3 := Aside0.mk (HB.out.grown hp2 HB.out.size (fun k hk => by injection hk with hk; have := HB2.out.size; omega))
      have HY2 : Aside0 ((ys.set i (wrap64 (v + 1))).length = us.length ∧ ∀ j : Nat, i + 1 ≤ j → rd (ys.set i (wrap64 (v + 1))) (j : Int) = rd us (j : Int)) := ⟨by rw [List.length_set]; exact hyl, fun j hj => by rw [← hyr j (by omega)]; unfold rd; rw [List.getD_eq_getElem?_getD, List.getD_eq_getElem?_getD, Int.toNat_natCast, List.getElem?_set_ne (by omega)]⟩
      have HCT := Aside0.mk (contains_take us v i hi)
      have p1 : (0 : Int) ≤ (i : Int) := by omega
      have q1 : (i : Int) < (us.length : Int) := by omega
      replace p1 := eq_true p1
      replace q1 := eq_true q1
      clear hp1 hp2 hR' hyl hyr ho hcs hbb
      cases b
      · by_cases hv : (rd us (i : Int) == v) = true
        · rw [hv, ← HBV.out] at HCT
          go_wp2
          go_roundg k1
          case measure => omega
          case rel => exact ⟨i + 1, true, _, rfl, by simp, ⟨by have := HK.out; omega⟩, ⟨HCT.out.symm⟩, HY2, HP1, HP2, HP3⟩
        · replace hv := Bool.eq_false_iff.2 hv
          rw [hv, ← HBV.out] at HCT
          go_wp2
          go_roundg k1
          case measure => omega
          case rel => exact ⟨i + 1, false, _, rfl, by simp, ⟨by have := HK.out; omega⟩, ⟨HCT.out.symm⟩, HY2, HP1, HP2, HP3⟩
      · rw [← HBV.out] at HCT
        go_wp2
        go_roundg k1
        case measure => omega
        case rel => exact ⟨i + 1, true, _, rfl, by simp, ⟨by have := HK.out; omega⟩, ⟨HCT.out.symm⟩, HY2, HP1, HP2, HP3⟩
end Go.Proofs.Ytcndpclnjnbppaa.Q
