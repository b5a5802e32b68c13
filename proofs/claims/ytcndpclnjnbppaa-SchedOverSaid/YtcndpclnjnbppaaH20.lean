import Derived.Test.YtcndpclnjnbppaaH19
import Derived.Outline
namespace Go.Proofs.Ytcndpclnjnbppaa.Q
open Go.RowKit Go.Proofs.YtcndpclnjnbppaaW.PrintWords Go.Proofs.YtcndpclnjnbppaaW.PrintLast Go.Proofs.YtcndpclnjnbppaaW.PrintMore
set_option linter.unusedVariables false
set_option linter.unusedSimpArgs false
set_option maxHeartbeats 8000000 in
set_option maxRecDepth 100000 in
theorem selvagelaw19_SchedOver.calls (A : Option Addr) (c : Nat) (l : List S41) (n : Int) (B : Option Addr) (cb : Nat) (more : List S41) (w : World) (hC : k41.C w A l.length l) (hc : l.length ≤ c) (k1 : -9223372036854775808 ≤ n) (k2 : n ≤ 9223372036854775807) (hC2 : k41.C w B more.length more) (hcb : more.length ≤ cb) :
    Calls Try.prog 7 #[.slice A l.length c, .int .i64 n, .slice B more.length cb] w fun e w' => e = .returned (.bool true) ∧ Below w.heap.size w w' := by
  have HC := Aside0.mk hC
  have HC2 := Aside0.mk hC2
  have hu22 := Try.underlying22
  have hu34 := Try.underlying34
  have hu38 := Try.underlying38
  have hu41 := Try.underlying41
  clear hC hC2
  go_enter Try.func7, Try.ntmps7
  go_upto_block 0 with (first | (go_at_call 8; (with_reducible refine (v_New w).mono ?_); rintro e w1 ⟨g, rfl, hI, hB⟩; have HJ1 := Aside0.mk (j_new hI hB); clear hI hB))
  go_cut [] (fun wc => ∃ s, Aside0 (J w wc g w1.heap.size s))
  case first =>
    go_wp2
    go_loopg [9] 20 (fun kq v9 w' => ∃ (i : Nat) (s : List S54), v9 = .int .i64 (i : Int) ∧ Aside0 (i + kq = 20) ∧ Aside0 (J w w' g w1.heap.size s))
    case atStart => exact ⟨0, [], rfl, ⟨rfl⟩, HJ1⟩
    case round =>
      obtain ⟨i, s, rfl, HK, HJ⟩ := hrel
      by_cases hi : i < l.length
      · have hd : decide (i < l.length) = true := decide_eq_true hi
        cases gk with
        | zero =>
          have hi40 : ¬ i < 20 := by have := HK.out; omega
          have hd2 : decide (i < 20) = false := decide_eq_false hi40
          go_wp2
          go_meet
          case rel => exact ⟨s, HJ⟩
        | succ k1' =>
          have hi40 : i < 20 := by have := HK.out; omega
          have hd2 : decide (i < 20) = true := decide_eq_true hi40
          obtain ⟨ad, A2, c2, e, hx0, hx1, hx2, hlc, hCx⟩ := at_T41 HC.out i hi
          cases e
          replace hx0 := (HJ.out.b.cell (World.block_lt_of_cell? w _ hx0)).trans hx0
          replace hx1 := (HJ.out.b.cell (World.block_lt_of_cell? w _ hx1)).trans hx1
          replace hx2 := (HJ.out.b.cell (World.block_lt_of_cell? w _ hx2)).trans hx2
          have p1 : (0 : Int) ≤ (i : Int) := by omega
          have q1 : (i : Int) < (l.length : Int) := by omega
          replace p1 := eq_true p1
          replace q1 := eq_true q1
          have HD := Aside0.mk (does_at (rd_T41 l i) A2 c2 HJ.out hlc hCx)
          generalize rd_T41 l i = x at *
          generalize doStep s x.f0 x.f1 x.f2 = s2 at *
          clear hCx
          go_wp2_with (go_at_call 15; (with_reducible refine HD.out.mono ?_); rintro e w2 ⟨rfl, hJ⟩; have HJ2 := Aside0.mk hJ; clear hJ)
          go_roundg k1'
          case measure => omega
          case rel => exact ⟨i + 1, s2, by simp, ⟨by have := HK.out; omega⟩, HJ2⟩
      · have hd : decide (i < l.length) = false := decide_eq_false hi
        go_wp2
        go_meet
        case rel => exact ⟨s, HJ⟩
  case rest =>
    obtain ⟨s, HJ⟩ := hcut
    clear HJ1
    have HE := Aside0.mk (t_End n HJ.out.t HJ.out.b)
    have hle := len_end s n
    have hs8 := HJ.out.t.2.1.1
    have HON := Aside0.mk (fun h0 h1 => over0_new HJ.out.t.2.1 n h0 h1)
    have HER := Aside0.mk (fun (W : World) (hI : IsR (fun _ => True) w W w1.heap.size s) (hB : Below w.heap.size w W) => r_End n hI hB)
    by_cases hin : 0 ≤ n ∧ n < (s.length : Int)
    · obtain ⟨hn0, hn1⟩ := hin
      have HO := Aside0.mk (HON.out hn0 hn1)
      generalize endL s n = s1 at *
      have hn2 : ¬ n < 0 := by omega
      have hn3 : ¬ (s1.length : Int) ≤ n := by omega
      clear HON
      go_upto_block 2 with (first
        | (go_at_call 23; (with_reducible refine HE.out.mono ?_); rintro e w2 ⟨rfl, hI, hB, hk⟩; have HI2 := Aside0.mk hI; have HB2 := Aside0.mk hB; have HR2 := Aside0.mk (HJ.out.r.overT hk); clear hI hB hk)
        | (go_at_call 24; (with_reducible refine (HER.out _ HR2.out HB2.out).mono ?_); rintro e w3 ⟨rfl, hI, hB, hk⟩; have HJ3 := Aside0.mk (show J w w3 g w1.heap.size s1 from ⟨HI2.out.overR hk, hI, hB⟩); clear hI hB hk)
        | (go_at_call 22; (with_reducible refine (t_Len HJ3.out.t).mono ?_); rintro e w4 ⟨rfl, rfl⟩))
      go_cut [] (fun wc => ∃ s', Aside0 (Over0 s' n) ∧ Aside0 (J w wc g w1.heap.size s'))
      case first =>
        go_wp2
        go_loopg [10] 20 (fun kq v10 w' => ∃ (i : Nat) (s' : List S54), v10 = .int .i64 (i : Int) ∧ Aside0 (i + kq = 20) ∧ Aside0 (Over0 s' n) ∧ Aside0 (J w w' g w1.heap.size s'))
        case atStart => exact ⟨0, _, rfl, ⟨rfl⟩, HO, HJ3⟩
        case round =>
          obtain ⟨i, s', rfl, HK, HW, HJ2⟩ := hrel
          have HB := Aside0.mk HJ2.out.b
          by_cases hi : i < more.length
          case neg =>
            have hd : decide (i < more.length) = false := decide_eq_false hi
            go_wp2
            go_meet
            case rel => exact ⟨s', HW, HJ2⟩
          have hd : decide (i < more.length) = true := decide_eq_true hi
          cases gk with
          | zero =>
            have hi40 : ¬ i < 20 := by have := HK.out; omega
            have hd2 : decide (i < 20) = false := decide_eq_false hi40
            go_wp2
            go_meet
            case rel => exact ⟨s', HW, HJ2⟩
          | succ k1' =>
          have hi40 : i < 20 := by have := HK.out; omega
          have hd2 : decide (i < 20) = true := decide_eq_true hi40
          obtain ⟨ad, A2, c2, e, hx0, hx1, hx2, hlc, hCx⟩ := at_T41 HC2.out i hi
          cases e
          replace hx0 := (HB.out.cell (World.block_lt_of_cell? w _ hx0)).trans hx0
          have HX1O := Aside0.mk hx1
          replace hx1 := (HB.out.cell (World.block_lt_of_cell? w _ hx1)).trans hx1
          replace hx2 := (HB.out.cell (World.block_lt_of_cell? w _ hx2)).trans hx2
          have p1 : (0 : Int) ≤ (i : Int) := by omega
          have q1 : (i : Int) < (more.length : Int) := by omega
          replace p1 := eq_true p1
          replace q1 := eq_true q1
          have HCX := Aside0.mk hCx
          clear hCx
          generalize rd_T41 more i = x at *
          obtain ⟨wo, rfl⟩ : ∃ wo : World, wo = wr := ⟨_, rfl⟩
          have hx1w := hx1
          go_upto_if 68 with (fail)
          go_cut [] (fun wc => ∃ s2, Aside0 (Over0 s2 n) ∧ Aside0 (J w wc g w1.heap.size s2))
          case first =>
            by_cases k2 : (x.f0 == 2) = true
            · have HTW := Aside0.mk (t_Wake x.f1 HJ2.out.t HJ2.out.b)
              have HNW := Aside0.mk (HW.out.woken x.f1)
              have HWK := Aside0.mk (HW.out.wake x.f1)
              have hr8 : (wakeR s' x.f1).length ≤ 8 := Nat.le_trans (ofTo_len _ _ _) HJ2.out.t.2.1.1
              have HRW := Aside0.mk (fun (W : World) (hT : IsR (fun _ => True) w W w1.heap.size s') (hB : Below w.heap.size w W) => r_Wake x.f1 hT hB)
              generalize wakeR s' x.f1 = R at *
              generalize wakeL s' x.f1 = s2 at *
              go_wp2_with (first
                | (go_at_call 12; (with_reducible refine HTW.out.mono ?_); rintro e w4 ⟨u, rfl, hR, hI, hB, hk⟩; obtain ⟨A4, c4, rfl, hc4, hC4⟩ := Kd.R_reads hR; have HC4 := Aside0.mk hC4; have HI4 := Aside0.mk hI; have HB4 := Aside0.mk hB; have HR4 := Aside0.mk (HJ2.out.r.overT hk); clear hR hC4 hI hB hk))
              have hy1 := (HB4.out.cell (World.block_lt_of_cell? w _ HX1O.out)).trans HX1O.out
              go_loopg [12] R.length (fun kq v12 w' => ∃ (j : Nat), v12 = .int .i64 (j : Int) ∧ Aside0 (j + kq = R.length) ∧ w' = w4)
              case atStart => exact ⟨0, rfl, ⟨by omega⟩, rfl⟩
              case round =>
                obtain ⟨j, rfl, HJK, rfl⟩ := hrel
                cases gk with
                | zero =>
                  have hdj : decide (j < R.length) = false := decide_eq_false (by have := HJK.out; omega)
                  go_wp2_with (first
                    | (go_at_call 25; (with_reducible refine (HRW.out _ HR4.out HB4.out).mono ?_); rintro e w5 ⟨u, rfl, hR, hI, hB, hk⟩; have HJ5 := Aside0.mk (show J w w5 g w1.heap.size s2 from ⟨HI4.out.overR hk, hI, hB⟩); clear hR hI hB hk))
                  go_meet
                  case rel => exact ⟨s2, HWK, HJ5⟩
                | succ k2' =>
                  have hj : j < R.length := by have := HJK.out; omega
                  have hdj : decide (j < R.length) = true := decide_eq_true hj
                  have hn := not_rd R n HNW.out j hj
                  obtain ⟨ad4, e, hx⟩ := Kd.at_int HC4.out (j : Int) (by omega) (by omega)
                  cases e
                  rw [Int.toNat_natCast] at hx
                  have p2 : (0 : Int) ≤ (j : Int) := by omega
                  have q2 : (j : Int) < (R.length : Int) := by omega
                  replace p2 := eq_true p2
                  replace q2 := eq_true q2
                  go_wp2
                  go_roundg k2'
                  case measure => omega
                  case rel => exact ⟨j + 1, by simp, ⟨by have := HJK.out; omega⟩, rfl⟩
            · replace k2 := Bool.eq_false_iff.2 k2
              have HD := Aside0.mk (does_at x A2 c2 HJ2.out hlc HCX.out)
              have HWD := Aside0.mk (HW.out.does x.f0 x.f1 x.f2)
              generalize doStep s' x.f0 x.f1 x.f2 = s2 at *
              go_wp2_with (first
                | (go_at_call 15; (with_reducible refine HD.out.mono ?_); rintro e w4 ⟨rfl, hJ⟩; have HJ4 := Aside0.mk hJ; clear hJ))
              go_meet
              case rel => exact ⟨s2, HWD, HJ4⟩
          case rest =>
            obtain ⟨s2, HW2, HJ5⟩ := hcut
            have HT := Aside0.mk (t_Ready HJ5.out.t)
            have HNR := Aside0.mk HW2.out.ready
            have hr8 := ready_len HJ5.out
            generalize tReady s2 = R at *
            go_wp2_with (first
              | (go_at_call 13; (with_reducible refine HT.out.mono ?_); rintro e w6 ⟨u, rfl, hR, hb⟩; obtain ⟨A6, c6, rfl, hc6, hC6⟩ := Kd.R_reads hR; have HC6 := Aside0.mk hC6; have HJ6 := Aside0.mk (HJ5.out.below hb); clear hR hb hC6))
            go_loopg [15] R.length (fun kq v15 w' => ∃ (j : Nat), v15 = .int .i64 (j : Int) ∧ Aside0 (j + kq = R.length) ∧ w' = w6)
            case atStart => exact ⟨0, rfl, ⟨by omega⟩, rfl⟩
            case round =>
              obtain ⟨j, rfl, HJK, rfl⟩ := hrel
              cases gk with
              | zero =>
                have hdj : decide (j < R.length) = false := decide_eq_false (by have := HJK.out; omega)
                go_wp2
                go_roundg k1'
                case measure => omega
                case rel => exact ⟨i + 1, s2, by simp, ⟨by have := HK.out; omega⟩, HW2, HJ6⟩
              | succ k2' =>
                have hj : j < R.length := by have := HJK.out; omega
                have hdj : decide (j < R.length) = true := decide_eq_true hj
                have hn := not_rd R n HNR.out j hj
                obtain ⟨ad4, e, hx⟩ := Kd.at_int HC6.out (j : Int) (by omega) (by omega)
                cases e
                rw [Int.toNat_natCast] at hx
                have p2 : (0 : Int) ≤ (j : Int) := by omega
                have q2 : (j : Int) < (R.length : Int) := by omega
                replace p2 := eq_true p2
                replace q2 := eq_true q2
                go_wp2
                go_roundg k2'
                case measure => omega
                case rel => exact ⟨j + 1, by simp, ⟨by have := HJK.out; omega⟩, rfl⟩
      case rest =>
        obtain ⟨s', HW, HJ2⟩ := hcut
        have HEE := Aside0.mk (t_End n HJ2.out.t HJ2.out.b)
        have he1 : endR s' n = 1 := by unfold endR; rw [HW.out.is0, HW.out.is1]; rfl
        have he2 : endL s' n = s' := by unfold endL; rw [HW.out.is0, HW.out.is1]; rfl
        have hw1 : waitR s' n = 1 := by unfold waitR; rw [HW.out.is0]; rfl
        rw [he1, he2] at HEE
        have HWR := Aside0.mk hw1
        clear he1 he2 hw1
        go_wp2_with (first
          | (go_at_call 23; (with_reducible refine HEE.out.mono ?_); rintro e w8 ⟨rfl, hI, hB, hk⟩; have HI8 := Aside0.mk hI; have HB8 := Aside0.mk hB; clear hI hB hk)
          | (go_at_call 11; (with_reducible refine (t_WaitNil n HI8.out HB8.out (fun _ _ => trivial)).mono ?_); rintro e w9 ⟨he, hI, hB, hk⟩; rw [HWR.out] at he; subst he; have HB9 := Aside0.mk hB; clear hI hB hk)
          | (go_at_call 14; (with_reducible refine (lives_calls _).mono ?_); rintro e w10 ⟨rfl, hB⟩; have HB10 := Aside0.mk (below_then HB9.out HB9.out.size hB); clear hB))
        go_ret
        exact ⟨rfl, HB10.out⟩
    · have hn : n < 0 ∨ ((endL s n).length : Int) ≤ n := by omega
      generalize endL s n = s1 at *
      clear hin HON
      by_cases hn0 : n < 0
      all_goals (try have hn3 : (s1.length : Int) ≤ n := by omega)
      all_goals clear hn
      all_goals go_wp2_with (first
        | (go_at_call 23; (with_reducible refine HE.out.mono ?_); rintro e w2 ⟨rfl, hI, hB, hk⟩; have HI2 := Aside0.mk hI; have HB2 := Aside0.mk hB; have HR2 := Aside0.mk (HJ.out.r.overT hk); clear hI hB hk)
        | (go_at_call 24; (with_reducible refine (HER.out _ HR2.out HB2.out).mono ?_); rintro e w3 ⟨rfl, hI, hB, hk⟩; have HJ3 := Aside0.mk (show J w w3 g w1.heap.size s1 from ⟨HI2.out.overR hk, hI, hB⟩); clear hI hB hk)
        | (go_at_call 22; (with_reducible refine (t_Len HJ3.out.t).mono ?_); rintro e w4 ⟨rfl, rfl⟩)
        | (go_at_call 14; (with_reducible refine (lives_calls _).mono ?_); rintro e w7 ⟨rfl, hB⟩; have HB7 := Aside0.mk (below_then HJ3.out.b HJ3.out.b.size hB); clear hB))
      all_goals go_ret
      all_goals exact ⟨rfl, HB7.out⟩
end Go.Proofs.Ytcndpclnjnbppaa.Q
