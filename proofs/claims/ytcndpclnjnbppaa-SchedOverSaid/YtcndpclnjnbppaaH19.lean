import Derived.Test.YtcndpclnjnbppaaH17
import Derived.Outline
namespace Go.Proofs.Ytcndpclnjnbppaa.Q
open Go.RowKit Go.Proofs.YtcndpclnjnbppaaW.PrintWords Go.Proofs.YtcndpclnjnbppaaW.PrintLast Go.Proofs.YtcndpclnjnbppaaW.PrintMore
set_option linter.unusedVariables false
set_option linter.unusedSimpArgs false
theorem t_WaitNil {ok : Nat → Prop} {w0 w : World} {g : Nat} {l : List S54} (n : Int) (hI : IsT ok w0 w g l) (hB : Below w0.heap.size w0 w) (hok : ∀ k, w.heap.size ≤ k → ok k) :
    Calls Try.prog 11 #[.pointer (some ⟨g, 0, none⟩), .int .i64 n, .slice none 0 0] w fun e w' => e = .returned (.int .i64 (waitR l n)) ∧ IsT ok w0 w' g (waitL l n []) ∧ Below w0.heap.size w0 w' ∧ KeepE 52 54 w w' :=
  t_Wait n none 0 [] hI hB hok (Nat.le_refl _) (Kd.C_nil _ _) (by simp)
theorem add_yes (s : List S54) (h : s.length < 8) : addR s = ((s.length : Int), 0) ∧ addL s = s ++ [z54] := by
  unfold addR addL
  rw [if_pos h, if_pos h]
  exact ⟨rfl, rfl⟩
theorem add_no (s : List S54) (h : ¬ s.length < 8) : addR s = (0, 16) ∧ addL s = s := by
  unfold addR addL
  rw [if_neg h, if_neg h]
  exact ⟨rfl, rfl⟩
set_option maxHeartbeats 8000000 in
set_option maxRecDepth 100000 in
theorem selvagelaw19_SchedNothing.calls (A : Option Addr) (c : Nat) (l : List S41) (B : Option Addr) (cb : Nat) (more : List S41) (w : World) (hC : k41.C w A l.length l) (hc : l.length ≤ c) (hC2 : k41.C w B more.length more) (hcb : more.length ≤ cb) :
    Calls Try.prog 6 #[.slice A l.length c, .slice B more.length cb] w fun e w' => e = .returned (.bool true) ∧ Below w.heap.size w w' := by
  have HC := Aside0.mk hC
  have HC2 := Aside0.mk hC2
  have hu22 := Try.underlying22
  have hu34 := Try.underlying34
  have hu38 := Try.underlying38
  have hu41 := Try.underlying41
  clear hC hC2
  go_enter Try.func6, Try.ntmps6
  go_upto_block 0 with (first | (go_at_call 8; (with_reducible refine (v_New w).mono ?_); rintro e w1 ⟨g, rfl, hI, hB⟩; have HJ1 := Aside0.mk (j_new hI hB); clear hI hB))
  go_cut [] (fun wc => ∃ s, Aside0 (J w wc g w1.heap.size s))
  case first =>
    go_wp2
    go_loopg [7] 20 (fun kq v7 w' => ∃ (i : Nat) (s : List S54), v7 = .int .i64 (i : Int) ∧ Aside0 (i + kq = 20) ∧ Aside0 (J w w' g w1.heap.size s))
    case atStart => exact ⟨0, [], rfl, ⟨rfl⟩, HJ1⟩
    case round =>
      obtain ⟨i, s, rfl, HK, HJ⟩ := hrel
      by_cases hi : i < l.length
      · have hd : decide (i < l.length) = true := decide_eq_true hi
        cases gk with
        | zero =>
          have hi40 : ¬ i < 20 := by have := HK.out; omega
          have hd2 : decide (i < 20) = false := decide_eq_false hi40
          go_wp2
          go_meet
          case rel => exact ⟨s, HJ⟩
        | succ k1' =>
          have hi40 : i < 20 := by have := HK.out; omega
          have hd2 : decide (i < 20) = true := decide_eq_true hi40
          obtain ⟨ad, A2, c2, e, hx0, hx1, hx2, hlc, hCx⟩ := at_T41 HC.out i hi
          cases e
          replace hx0 := (HJ.out.b.cell (World.block_lt_of_cell? w _ hx0)).trans hx0
          replace hx1 := (HJ.out.b.cell (World.block_lt_of_cell? w _ hx1)).trans hx1
          replace hx2 := (HJ.out.b.cell (World.block_lt_of_cell? w _ hx2)).trans hx2
          have p1 : (0 : Int) ≤ (i : Int) := by omega
          have q1 : (i : Int) < (l.length : Int) := by omega
          replace p1 := eq_true p1
          replace q1 := eq_true q1
          have HD := Aside0.mk (does_at (rd_T41 l i) A2 c2 HJ.out hlc hCx)
          generalize rd_T41 l i = x at *
          generalize doStep s x.f0 x.f1 x.f2 = s2 at *
          clear hCx
          go_wp2_with (go_at_call 15; (with_reducible refine HD.out.mono ?_); rintro e w2 ⟨rfl, hJ⟩; have HJ2 := Aside0.mk hJ; clear hJ)
          go_roundg k1'
          case measure => omega
          case rel => exact ⟨i + 1, s2, by simp, ⟨by have := HK.out; omega⟩, HJ2⟩
      · have hd : decide (i < l.length) = false := decide_eq_false hi
        go_wp2
        go_meet
        case rel => exact ⟨s, HJ⟩
  case rest =>
    obtain ⟨s, HJ⟩ := hcut
    clear HJ1
    have h8 := HJ.out.t.2.1.1
    by_cases hs : s.length < 8
    · have HA := Aside0.mk (t_Add HJ.out.t HJ.out.b (fun _ _ => trivial))
      rw [(add_yes s hs).1, (add_yes s hs).2] at HA
      have HW0 := Aside0.mk (waits0_new s hs)
      have HS := Aside0.mk hs
      clear hs h8
      go_upto_block 2 with (first
        | (go_at_call 9; (with_reducible refine HA.out.mono ?_); rintro e w2 ⟨rfl, hI, hB, hk⟩; have HI2 := Aside0.mk hI; have HB2 := Aside0.mk hB; clear hI hB hk)
        | (go_at_call 11; (with_reducible refine (t_WaitNil (s.length : Int) HI2.out HB2.out (fun _ _ => trivial)).mono ?_); rintro e w3 ⟨rfl, hI, hB, hk⟩; have HI3 := Aside0.mk hI; have HB3 := Aside0.mk hB; clear hI hB hk))
      rw [HW0.out.2]
      go_cut [] (fun wc => ∃ s', Aside0 (Waits0 s' (s.length : Int)) ∧ Aside0 (IsT (fun _ => True) w wc g s') ∧ Aside0 (Below w.heap.size w wc))
      case first =>
        go_wp2
        go_loopg [11] 20 (fun kq v11 w' => ∃ (i : Nat) (s' : List S54), v11 = .int .i64 (i : Int) ∧ Aside0 (i + kq = 20) ∧ Aside0 (Waits0 s' (s.length : Int)) ∧ Aside0 (IsT (fun _ => True) w w' g s') ∧ Aside0 (Below w.heap.size w w'))
        case atStart => exact ⟨0, _, rfl, ⟨rfl⟩, ⟨HW0.out.1⟩, HI3, HB3⟩
        case round =>
          obtain ⟨i, s', rfl, HK, HW, HI, HB⟩ := hrel
          by_cases hi : i < more.length
          case neg =>
            have hd : decide (i < more.length) = false := decide_eq_false hi
            go_wp2
            go_meet
            case rel => exact ⟨s', HW, HI, HB⟩
          have hd : decide (i < more.length) = true := decide_eq_true hi
          cases gk with
          | zero =>
            have hi40 : ¬ i < 20 := by have := HK.out; omega
            have hd2 : decide (i < 20) = false := decide_eq_false hi40
            go_wp2
            go_meet
            case rel => exact ⟨s', HW, HI, HB⟩
          | succ k1' =>
          have hi40 : i < 20 := by have := HK.out; omega
          have hd2 : decide (i < 20) = true := decide_eq_true hi40
          obtain ⟨ad, A2, c2, e, hx0, hx1, hx2, hlc, hCx⟩ := at_T41 HC2.out i hi
          cases e
          replace hx0 := (HB.out.cell (World.block_lt_of_cell? w _ hx0)).trans hx0
          have HX1O := Aside0.mk hx1
          replace hx1 := (HB.out.cell (World.block_lt_of_cell? w _ hx1)).trans hx1
          replace hx2 := (HB.out.cell (World.block_lt_of_cell? w _ hx2)).trans hx2
          have p1 : (0 : Int) ≤ (i : Int) := by omega
          have q1 : (i : Int) < (more.length : Int) := by omega
          replace p1 := eq_true p1
          replace q1 := eq_true q1
          have HCX := Aside0.mk hCx
          clear hCx
          generalize rd_T41 more i = x at *
          have HIA := Aside0.mk (HI.out.below (below_alloc (Below.refl _ _) (.cells #[.int .i64 x.f0, .int .i64 x.f1, .slice A2 x.f2.length c2] 41)))
          have HBA := Aside0.mk (below_alloc HB.out (.cells #[.int .i64 x.f0, .int .i64 x.f1, .slice A2 x.f2.length c2] 41))
          by_cases k2 : (x.f0 == 2) = true
          · go_wp2_with (first
              | (go_at_call 12; (with_reducible refine (t_Wake x.f1 HIA.out HBA.out).mono ?_); rintro e w4 ⟨u, rfl, hR, hI, hB, hk⟩; have HI4 := Aside0.mk hI; have HB4 := Aside0.mk hB; clear hR hI hB hk))
            go_roundg k1'
            case measure => omega
            case rel => exact ⟨i + 1, _, by simp, ⟨by have := HK.out; omega⟩, ⟨HW.out.wake x.f1⟩, HI4, HB4⟩
          · replace k2 := Bool.eq_false_iff.2 k2
            by_cases k1 : (x.f0 == 1) = true
            · have HF := Aside0.mk (few_calls A2 c2 x.f2 _ hlc (Kd.C_below HCX.out HBA.out))
              have h12 : (x.f2.take 12).length ≤ 12 := by rw [List.length_take]; omega
              have HIS := Aside0.mk HW.out.is
              generalize x.f2.take 12 = us at *
              have HWR : Aside0 (waitR s' (s.length : Int) = 1) := ⟨by unfold waitR; rw [HIS.out]; rfl⟩
              have HWL : Aside0 (waitL s' (s.length : Int) us = s') := ⟨by unfold waitL; rw [HIS.out]; rfl⟩
              go_wp2_with (first
                | (go_at_call 10; (with_reducible refine HF.out.mono ?_); rintro e w4 ⟨u, rfl, hR, hb⟩; obtain ⟨A4, c4, rfl, hc4, hC4⟩ := Kd.R_reads hR; have HC4 := Aside0.mk hC4; have HI4 := Aside0.mk (HIA.out.below hb); have HB4 := Aside0.mk (below_then HBA.out HBA.out.size hb); clear hR hb hC4)
                | (go_at_call 11; (with_reducible refine (t_Wait (s.length : Int) A4 c4 us HI4.out HB4.out (fun _ _ => trivial) hc4 HC4.out (by omega)).mono ?_); rintro e w5 ⟨he, hI, hB, hk⟩; rw [HWR.out] at he; rw [HWL.out] at hI; subst he; have HI5 := Aside0.mk hI; have HB5 := Aside0.mk hB; clear hI hB hk))
              go_roundg k1'
              case measure => omega
              case rel => exact ⟨i + 1, s', by simp, ⟨by have := HK.out; omega⟩, HW, HI5, HB5⟩
            · replace k1 := Bool.eq_false_iff.2 k1
              go_wp2
              go_roundg k1'
              case measure => omega
              case rel => exact ⟨i + 1, s', by simp, ⟨by have := HK.out; omega⟩, HW, HIA, HBA⟩
      case rest =>
        obtain ⟨s', HW, HI, HB⟩ := hcut
        have HT := Aside0.mk (t_Ready HI.out)
        have HNR := Aside0.mk HW.out.ready
        have hr8 : (tReady s').length ≤ 8 := Nat.le_trans (ofTo_len _ _ _) HI.out.2.1.1
        generalize tReady s' = R at *
        have HST := Aside0.mk HW.out.status
        go_wp2_with (first
          | (go_at_call 13; (with_reducible refine HT.out.mono ?_); rintro e w4 ⟨u, rfl, hR, hb⟩; obtain ⟨A4, c4, rfl, hc4, hC4⟩ := Kd.R_reads hR; have HC4 := Aside0.mk hC4; have HI4 := Aside0.mk (HI.out.below hb); have HB4 := Aside0.mk (below_then HB.out HB.out.size hb); clear hR hb hC4))
        go_loopg [14] R.length (fun kq v14 w' => ∃ (i : Nat), v14 = .int .i64 (i : Int) ∧ Aside0 (i + kq = R.length) ∧ w' = w4)
        case atStart => exact ⟨0, rfl, ⟨by omega⟩, rfl⟩
        case round =>
          obtain ⟨i, rfl, HK, rfl⟩ := hrel
          cases gk with
          | zero =>
            have hd : decide (i < R.length) = false := decide_eq_false (by have := HK.out; omega)
            have hne : ¬ statusR s' = 1 := HST.out
            have hst : (statusR s' == 1) = false := beq_eq_false_iff_ne.2 HST.out
            have hst2 : (statusR s' != 1) = true := bne_iff_ne.2 HST.out
            go_wp2_with (first
              | (go_at_call 20; (with_reducible refine (t_Status HI4.out).mono ?_); rintro e w6 ⟨rfl, hb⟩; have HB6 := Aside0.mk (below_then HB4.out HB4.out.size hb); clear hb)
              | (go_at_call 14; (with_reducible refine (lives_calls _).mono ?_); rintro e w7 ⟨rfl, hB⟩; have HB7 := Aside0.mk (below_then HB6.out HB6.out.size hB); clear hB))
            go_ret
            exact ⟨rfl, HB7.out⟩
          | succ k1' =>
            have hi : i < R.length := by have := HK.out; omega
            have hd : decide (i < R.length) = true := decide_eq_true hi
            have hn := not_rd R (s.length : Int) HNR.out i hi
            obtain ⟨ad, e, hx⟩ := Kd.at_int HC4.out (i : Int) (by omega) (by omega)
            cases e
            rw [Int.toNat_natCast] at hx
            have p1 : (0 : Int) ≤ (i : Int) := by omega
            have q1 : (i : Int) < (R.length : Int) := by omega
            replace p1 := eq_true p1
            replace q1 := eq_true q1
            go_wp2
            go_roundg k1'
            case measure => omega
            case rel => exact ⟨i + 1, by simp, ⟨by have := HK.out; omega⟩, rfl⟩
    · have HA := Aside0.mk (t_Add HJ.out.t HJ.out.b (fun _ _ => trivial))
      rw [(add_no s hs).1, (add_no s hs).2] at HA
      have hl : s.length = 8 := by omega
      have hlb : ((s.length : Int) == 8) = true := by rw [beq_iff_eq]; omega
      clear hs h8
      go_wp2_with (first
        | (go_at_call 9; (with_reducible refine HA.out.mono ?_); rintro e w2 ⟨rfl, hI, hB, hk⟩; have HI2 := Aside0.mk hI; have HB2 := Aside0.mk hB; clear hI hB hk)
        | (go_at_call 22; (with_reducible refine (t_Len HI2.out).mono ?_); rintro e w3 ⟨rfl, rfl⟩)
        | (go_at_call 14; (with_reducible refine (lives_calls _).mono ?_); rintro e w7 ⟨rfl, hB⟩; have HB7 := Aside0.mk (below_then HB2.out HB2.out.size hB); clear hB))
      go_ret
      exact ⟨rfl, HB7.out⟩
end Go.Proofs.Ytcndpclnjnbppaa.Q
