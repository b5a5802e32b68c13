import Derived.Test.YtcndpclnjnbppaaH15
import Derived.Outline
namespace Go.Proofs.Ytcndpclnjnbppaa.Q
open Go.RowKit Go.Proofs.YtcndpclnjnbppaaW.PrintWords Go.Proofs.YtcndpclnjnbppaaW.PrintLast Go.Proofs.YtcndpclnjnbppaaW.PrintMore
set_option linter.unusedVariables false
set_option linter.unusedSimpArgs false
/-! ### each is picked just once -/
theorem tReady_nodup (s : List S54) : (tReady s).Nodup := by
  unfold tReady tOf ofTo
  have h : ((List.range s.length).filter (fun i : Nat => isReady (s.getD i z54))).Nodup := List.Pairwise.filter _ List.nodup_range
  exact List.Pairwise.map _ (fun a b hab e => hab (by omega)) h
theorem rd_inj (R : List Int) (h : R.Nodup) (a b : Nat) (ha : a < R.length) (hb : b < R.length) : (rd R (a : Int) == rd R (b : Int)) = decide (a = b) := by
  have e1 : rd R (a : Int) = R[a] := by simp [rd, List.getD_eq_getElem?_getD, List.getElem?_eq_getElem ha]
  have e2 : rd R (b : Int) = R[b] := by simp [rd, List.getD_eq_getElem?_getD, List.getElem?_eq_getElem hb]
  rw [e1, e2]
  by_cases hab : a = b
  · subst hab
    simp
  · rw [decide_eq_false hab, beq_eq_false_iff_ne]
    intro he
    have hp := List.pairwise_iff_getElem.1 h
    rcases Nat.lt_or_gt_of_ne hab with hlt | hgt
    · exact hp a b ha hb hlt he
    · exact hp b a hb ha hgt he.symm
/-- The one number that picks i. -/
def j0 (K n i : Nat) : Nat := if i < K % n then i + n - K % n else i - K % n
theorem j0_lt (K n i : Nat) (hi : i < n) : j0 K n i < n := by unfold j0; have := Nat.mod_lt K (show 0 < n by omega); split <;> omega
theorem j0_iff (K n i j : Nat) (hi : i < n) (hj : j < n) : (K + j) % n = i ↔ j = j0 K n i := by
  have hr := Nat.mod_lt K (show 0 < n by omega)
  have e : (K + j) % n = (K % n + j) % n := by rw [Nat.mod_add_mod]
  rw [e]
  unfold j0
  generalize K % n = r at hr ⊢
  by_cases h : r + j < n
  · rw [Nat.mod_eq_of_lt h]
    split <;> omega
  · rw [Nat.mod_eq_sub_mod (by omega), Nat.mod_eq_of_lt (by omega)]
    split <;> omega
def cnt (K n i j : Nat) : Int := if j0 K n i < j then 1 else 0
theorem cnt_succ (K n i j : Nat) (hi : i < n) (hj : j < n) : cnt K n i (j + 1) = if (K + j) % n = i then cnt K n i j + 1 else cnt K n i j := by
  unfold cnt
  by_cases h : (K + j) % n = i
  · rw [if_pos h]
    have := (j0_iff K n i j hi hj).1 h
    rw [if_pos (by omega), if_neg (by omega)]
    rfl
  · rw [if_neg h]
    have h2 : j ≠ j0 K n i := fun e => h ((j0_iff K n i j hi hj).2 e)
    by_cases h3 : j0 K n i < j
    · rw [if_pos (by omega), if_pos h3]
    · rw [if_neg (by omega), if_neg h3]
theorem pick_nat (s : List S54) (K j : Nat) (h : 0 < (tReady s).length) : pickR s ((K : Int) + (j : Int)) = (rd (tReady s) (((K + j) % (tReady s).length : Nat) : Int), true) := by
  unfold pickR
  rw [if_neg (fun e => by rw [e] at h; simp at h)]
  have e : absK ((K : Int) + (j : Int)) = ((K + j : Nat) : Int) := by unfold absK; rw [if_neg (by omega)]; omega
  rw [e, ← Int.ofNat_tmod]
section
variable {w0 w : World} {gt gr : Nat} {s : List S54}
set_option maxHeartbeats 8000000 in
set_option maxRecDepth 100000 in
theorem selvagelaw19_SchedFair.calls (A : Option Addr) (c : Nat) (l : List S41) (k : Int) (w : World) (hC : k41.C w A l.length l) (hc : l.length ≤ c) (k1 : -9223372036854775808 ≤ k) (k2 : k ≤ 9223372036854775807) :
    Calls Try.prog 4 #[.slice A l.length c, .int .i64 k] w fun e w' => e = .returned (.bool true) ∧ Below w.heap.size w w' := by
  have HC := Aside0.mk hC
  have hu22 := Try.underlying22
  have hu34 := Try.underlying34
  have hu38 := Try.underlying38
  have hu41 := Try.underlying41
  clear hC
  go_enter Try.func4, Try.ntmps4
  go_upto_block 0 with (first | (go_at_call 8; (with_reducible refine (v_New w).mono ?_); rintro e w1 ⟨g, rfl, hI, hB⟩; have HJ1 := Aside0.mk (j_new hI hB); clear hI hB))
  go_cut [] (fun wc => ∃ s, Aside0 (J w wc g w1.heap.size s))
  case first =>
    go_wp2
    go_loopg [7] 30 (fun kq v7 w' => ∃ (i : Nat) (s : List S54), v7 = .int .i64 (i : Int) ∧ Aside0 (i + kq = 30) ∧ Aside0 (J w w' g w1.heap.size s))
    case atStart => exact ⟨0, [], rfl, ⟨rfl⟩, HJ1⟩
    case round =>
      obtain ⟨i, s, rfl, HK, HJ⟩ := hrel
      by_cases hi : i < l.length
      · have hd : decide (i < l.length) = true := decide_eq_true hi
        cases gk with
        | zero =>
          have hi40 : ¬ i < 30 := by have := HK.out; omega
          have hd2 : decide (i < 30) = false := decide_eq_false hi40
          go_wp2
          go_meet
          case rel => exact ⟨s, HJ⟩
        | succ k1' =>
          have hi40 : i < 30 := by have := HK.out; omega
          have hd2 : decide (i < 30) = true := decide_eq_true hi40
          obtain ⟨ad, A2, c2, e, hx0, hx1, hx2, hlc, hCx⟩ := at_T41 HC.out i hi
          cases e
          replace hx0 := (HJ.out.b.cell (World.block_lt_of_cell? w _ hx0)).trans hx0
          replace hx1 := (HJ.out.b.cell (World.block_lt_of_cell? w _ hx1)).trans hx1
          replace hx2 := (HJ.out.b.cell (World.block_lt_of_cell? w _ hx2)).trans hx2
          have p1 : (0 : Int) ≤ (i : Int) := by omega
          have q1 : (i : Int) < (l.length : Int) := by omega
          replace p1 := eq_true p1
          replace q1 := eq_true q1
          have HD := Aside0.mk (does_at (rd_T41 l i) A2 c2 HJ.out hlc hCx)
          generalize rd_T41 l i = x at *
          generalize doStep s x.f0 x.f1 x.f2 = s2 at *
          clear hCx
          go_wp2_with (go_at_call 15; (with_reducible refine HD.out.mono ?_); rintro e w2 ⟨rfl, hJ⟩; have HJ2 := Aside0.mk hJ; clear hJ)
          go_roundg k1'
          case measure => omega
          case rel => exact ⟨i + 1, s2, by simp, ⟨by have := HK.out; omega⟩, HJ2⟩
      · have hd : decide (i < l.length) = false := decide_eq_false hi
        go_wp2
        go_meet
        case rel => exact ⟨s, HJ⟩
  case rest =>
    obtain ⟨s, HJ⟩ := hcut
    clear HJ1
    go_upto_if 37 with (fail)
    go_cut [1] (fun v1 wc => v1 = .int .i64 (absK k) ∧ Aside0 (J w wc g w1.heap.size s))
    case first =>
      by_cases hk : k < 0
      · have e : absK k = -(k + 1) := by unfold absK; rw [if_pos hk]
        have E := Aside0.mk e
        clear e
        go_wp2
        go_meet
        case rel => exact ⟨by rw [E.out], HJ⟩
      · have e : absK k = k := by unfold absK; rw [if_neg hk]
        have E := Aside0.mk e
        clear e
        go_wp2
        go_meet
        case rel => exact ⟨by rw [E.out], HJ⟩
    case rest =>
      obtain ⟨rfl, HJ⟩ := hcut
      have hA := absK_pos k
      have hA2 : absK k ≤ 9223372036854775807 := by unfold absK; split <;> omega
      obtain ⟨K, hKn, hK⟩ : ∃ K : Nat, Int.tmod (absK k) 1000000 = (K : Int) ∧ K < 1000000 := by
        have h1 : 0 ≤ Int.tmod (absK k) 1000000 := Int.tmod_nonneg _ hA
        have h2 : Int.tmod (absK k) 1000000 < 1000000 := Int.tmod_lt_of_pos _ (by decide)
        exact ⟨(Int.tmod (absK k) 1000000).toNat, (Int.toNat_of_nonneg h1).symm, by omega⟩
      have HT := Aside0.mk (t_Ready HJ.out.t)
      have h8 := ready_len HJ.out
      have HND := Aside0.mk (tReady_nodup s)
      have HP := Aside0.mk (fun (W : World) (j : Nat) (hp : 0 < (tReady s).length) (hj : j ≤ 8) (hJ : J w W g w1.heap.size s) => (show Calls Try.prog 16 #[.pointer (some ⟨g, 0, none⟩), .int .i64 ((K : Int) + (j : Int))] W fun e w' => e = .returned (.tuple #[.int .i64 (rd (tReady s) (((K + j) % (tReady s).length : Nat) : Int)), .bool true]) ∧ J w w' g w1.heap.size s ∧ Below W.heap.size W w' from (t_Pick ((K : Int) + (j : Int)) (by omega) (by omega) hJ.t).mono (fun e w' h => ⟨by rw [h.1, pick_nat s K j hp], hJ.below h.2, h.2⟩)))
      generalize tReady s = R at *
      go_wp2_with (go_at_call 13; (with_reducible refine HT.out.mono ?_); rintro e w3 ⟨v, rfl, hR, hB⟩; obtain ⟨A3, c3, rfl, hc3, hC3⟩ := Kd.R_reads hR; have HC3 := Aside0.mk hC3; have HJ3 := Aside0.mk (HJ.out.below hB); clear hR hC3 hB)
      go_loopg [9] R.length (fun kq v9 w' => ∃ (i : Nat), v9 = .int .i64 (i : Int) ∧ Aside0 (i + kq = R.length) ∧ Aside0 (J w w' g w1.heap.size s) ∧ Aside0 (Below w3.heap.size w3 w'))
      case atStart => exact ⟨0, rfl, ⟨by omega⟩, HJ3, ⟨Below.refl _ _⟩⟩
      case round =>
        obtain ⟨i, rfl, HI, HJI, HBI⟩ := hrel
        cases gk with
        | zero =>
          have hd : decide (i < R.length) = false := decide_eq_false (by have := HI.out; omega)
          go_wp2_with (go_at_call 14; (with_reducible refine (lives_calls _).mono ?_); rintro e w4 ⟨rfl, hB⟩; have HB4 := Aside0.mk (below_then HJI.out.b HJI.out.b.size hB); clear hB)
          go_ret
          exact ⟨rfl, HB4.out⟩
        | succ k1' =>
          have hi : i < R.length := by have := HI.out; omega
          have hd : decide (i < R.length) = true := decide_eq_true hi
          obtain ⟨wo, rfl⟩ : ∃ wo : World, wo = wr := ⟨_, rfl⟩
          go_wp2
          go_loopg [10, 11] R.length (fun kq v10 v11 w' => ∃ (j : Nat) (m : Int), v10 = .int .i64 m ∧ v11 = .int .i64 (j : Int) ∧ Aside0 (j + kq = R.length) ∧ Aside0 (m = cnt K R.length i j) ∧ Aside0 (J w w' g w1.heap.size s) ∧ Aside0 (Below w3.heap.size w3 w'))
          case atStart => exact ⟨0, 0, rfl, rfl, ⟨by omega⟩, ⟨by unfold cnt; rw [if_neg (by omega)]⟩, HJI, HBI⟩
          case round =>
            obtain ⟨j, m, rfl, rfl, HJJ, HM, HJ2, HB2⟩ := hrel
            cases gk with
            | zero =>
              have hdj : decide (j < R.length) = false := decide_eq_false (by have := HJJ.out; omega)
              have hm1 : m = 1 := by
                rw [HM.out, show j = R.length by have := HJJ.out; omega]
                unfold cnt
                rw [if_pos (j0_lt K R.length i hi)]
              subst hm1
              go_wp2
              go_roundg k1'
              case measure => omega
              case rel => exact ⟨i + 1, by simp, ⟨by have := HI.out; omega⟩, HJ2, HB2⟩
            | succ k2' =>
              have hj : j < R.length := by have := HJJ.out; omega
              have hdj : decide (j < R.length) = true := decide_eq_true hj
              have HCS := Aside0.mk (cnt_succ K R.length i j hi hj)
              have HIJ := Aside0.mk (rd_inj R HND.out ((K + j) % R.length) i (Nat.mod_lt _ (by omega)) hi)
              have HPJ := Aside0.mk (HP.out wr j (by omega) (by omega) HJ2.out)
              have hmb : 0 ≤ m ∧ m ≤ 1 := by rw [HM.out]; unfold cnt; split <;> omega
              obtain ⟨m1, m2⟩ := hmb
              obtain ⟨ad, e, hx⟩ := Kd.at_int HC3.out (i : Int) (by omega) (by omega)
              cases e
              rw [Int.toNat_natCast] at hx
              have HX := Aside0.mk hx
              clear hx
              generalize (K + j) % R.length = q at *
              have p1 : (0 : Int) ≤ (i : Int) := by omega
              have q1 : (i : Int) < (R.length : Int) := by omega
              replace p1 := eq_true p1
              replace q1 := eq_true q1
              by_cases hq : q = i
              · have hb : (rd R (q : Int) == rd R (i : Int)) = true := by rw [HIJ.out, decide_eq_true hq]
                have HM2 : Aside0 (m + 1 = cnt K R.length i (j + 1)) := ⟨by rw [HCS.out, if_pos hq, HM.out]⟩
                clear hq
                go_wp2_with (go_at_call 16; (with_reducible refine HPJ.out.mono ?_); rintro e w5 ⟨rfl, hJ, hB⟩; have HJ5 := Aside0.mk hJ; have HB5 := Aside0.mk (below_then HB2.out HB2.out.size hB); have hx5 := pw_cell_below HB5.out HX.out; clear hJ hB)
                go_roundg k2'
                case measure => omega
                case rel => exact ⟨j + 1, m + 1, rfl, by simp, ⟨by have := HJJ.out; omega⟩, HM2, HJ5, HB5⟩
              · have hb : (rd R (q : Int) == rd R (i : Int)) = false := by rw [HIJ.out, decide_eq_false hq]
                have HM2 : Aside0 (m = cnt K R.length i (j + 1)) := ⟨by rw [HCS.out, if_neg hq, HM.out]⟩
                clear hq
                go_wp2_with (go_at_call 16; (with_reducible refine HPJ.out.mono ?_); rintro e w5 ⟨rfl, hJ, hB⟩; have HJ5 := Aside0.mk hJ; have HB5 := Aside0.mk (below_then HB2.out HB2.out.size hB); have hx5 := pw_cell_below HB5.out HX.out; clear hJ hB)
                go_roundg k2'
                case measure => omega
                case rel => exact ⟨j + 1, m, rfl, by simp, ⟨by have := HJJ.out; omega⟩, HM2, HJ5, HB5⟩
end
end Go.Proofs.Ytcndpclnjnbppaa.Q
