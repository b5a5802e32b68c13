import Derived.Test.YtcndpclnjnbppaaH8

namespace Go.Proofs.Ytcndpclnjnbppaa.Q
open Go.RowKit Go.Proofs.YtcndpclnjnbppaaW.PrintWords Go.Proofs.YtcndpclnjnbppaaW.PrintLast Go.Proofs.YtcndpclnjnbppaaW.PrintMore
set_option linter.unusedVariables false
set_option linter.unusedSimpArgs false
section
variable {ok : Nat → Prop} {w0 w : World} {g : Nat} {l : List S54}
set_option maxHeartbeats 2000000 in
theorem r_Ready (hI : IsR ok w0 w g l) : Calls Try.prog 18 #[.pointer (some ⟨g, 0, none⟩)] w fun e w' => ∃ v, e = .returned v ∧ Kd.R (Kd.int .i64) 3 w' w.heap.size (fun _ => True) v (tReady l) ∧ Below w.heap.size w w' := by
  have HG := Aside0.mk hI.2.1
  have HL := Aside0.mk hI.2.1.1
  obtain ⟨A, c, hcell, hf, hlc, hC⟩ := hI.open_
  have hu36 := Try.underlying36
  have hu38 := Try.underlying38
  have hu59 := Try.underlying59
  have HC := Aside0.mk hC
  have HCELL := Aside0.mk hcell
  clear hC hI hcell hf
  go_enter Try.func18, Try.ntmps18
  go_wp2
  go_loopg [3, 4] l.length (fun kq v3 v4 w' => ∃ (i : Nat), v4 = .int .i64 (i : Int) ∧ Aside0 (i + kq = l.length) ∧ Aside0 (Kd.R (Kd.int .i64) 3 w' w.heap.size (fun _ => True) v3 (ofTo isReady l i)) ∧ Aside0 (Below w.heap.size w w'))
  case atStart => exact ⟨0, rfl, ⟨by omega⟩, ⟨Kd.R_nil _ _ _ _ _⟩, ⟨Below.refl _ _⟩⟩
  case round =>
    obtain ⟨i, rfl, HK, HO, HB⟩ := hrel
    have hcell := pw_cell_below HB.out HCELL.out
    cases gk with
    | zero =>
      have hd : decide (i < l.length) = false := decide_eq_false (by have := HK.out; omega)
      have hi : i = l.length := by have := HK.out; omega
      have HI := Aside0.mk hi
      clear hi
      go_wp2
      go_ret
      exact ⟨_, rfl, by have := HO.out; rw [HI.out] at this; exact this, HB.out⟩
    | succ k1 =>
      have hi : i < l.length := by have := HK.out; omega
      have hd : decide (i < l.length) = true := decide_eq_true (by omega)
      have p1 : (0 : Int) ≤ (i : Int) := by omega
      have q1 : (i : Int) < (l.length : Int) := by omega
      obtain ⟨ad, A1, c1, e, hx0, hx1, hx2, hlc1, hC1⟩ := at_R HC.out (i : Int) p1 q1
      cases e
      rw [Int.toNat_natCast] at hx0 hx1
      replace hx0 := (HB.out.cell (World.block_lt_of_cell? w _ hx0)).trans hx0
      replace hx1 := (HB.out.cell (World.block_lt_of_cell? w _ hx1)).trans hx1
      clear hC1 hlc1 hx2
      have HS := Aside0.mk (ofTo_succ isReady l i)
      have HLEN := Aside0.mk (ofTo_len isReady l i)
      have HI := Aside0.mk hi
      replace p1 := eq_true p1
      replace q1 := eq_true q1
      have hgd : l.getD i z54 = rd_T54 l (i : Int) := by unfold rd_T54; rw [Int.toNat_natCast]
      have hkind := (HG.out.get (i : Int)).1
      rw [hgd] at HS
      clear hgd
      generalize hx : rd_T54 l (i : Int) = x at *
      have hl8 := HL.out
      rcases hkind with hk | hk | hk
      · rw [hk] at hx0 hx1
        replace HS := Aside0.mk (HS.out.trans (by rw [if_pos (show isReady x = true by unfold isReady; rw [hk]; rfl)] : _ = ofTo isReady l i ++ [(i : Int)]))
        replace hx0 : wr.cell? (ad.add (i * 3)) = some (.bool false) := hx0
        replace hx1 : wr.cell? ⟨(ad.add (i * 3)).block, (ad.add (i * 3)).off + 1, none⟩ = some (.bool false) := hx1
        clear hk
        go_wp2_with (first | ((with_reducible refine gate_builtin (b := .append) (xs := #[.tmp 34, .tmp 36]) rfl ?_); at_builtin; refine Kd.R_append (Kd.int .i64) (w0 := w) w.heap.size rfl (.tmp 34) (.tmp 36) 22 3 (.int .i64 0) 8 rfl Try.underlying22 info3 rfl (by decide) (by omega) u3 (ofTo isReady l i) (i : Int) [.int .i64 (i : Int)] (fun _ => True) (fun _ => False) rfl rfl rfl (fun _ hk => hk.elim) (fun _ _ => trivial) HO.out HB.out (below_size HB.out) (by have := HLEN.out; have := HI.out; have := HL.out; omega) ?_; intro v5' w6 ho hb _ _; rw [← HS.out] at ho; have HB2 := Aside0.mk hb; have HO2 := Aside0.mk ho; clear HB HO ho hb))
        go_roundg k1
        case measure => omega
        case rel => exact ⟨i + 1, by simp, ⟨by have := HK.out; omega⟩, HO2, HB2⟩
      · rw [hk] at hx0 hx1
        replace HS := Aside0.mk (HS.out.trans (by rw [if_neg (show ¬ isReady x = true by unfold isReady; rw [hk]; decide), List.append_nil] : _ = ofTo isReady l i))
        replace hx0 : wr.cell? (ad.add (i * 3)) = some (.bool false) := hx0
        replace hx1 : wr.cell? ⟨(ad.add (i * 3)).block, (ad.add (i * 3)).off + 1, none⟩ = some (.bool true) := hx1
        clear hk
        go_wp2
        go_roundg k1
        case measure => omega
        case rel => exact ⟨i + 1, by simp, ⟨by have := HK.out; omega⟩, ⟨by rw [HS.out]; exact HO.out⟩, HB⟩
      · rw [hk] at hx0 hx1
        replace HS := Aside0.mk (HS.out.trans (by rw [if_neg (show ¬ isReady x = true by unfold isReady; rw [hk]; decide), List.append_nil] : _ = ofTo isReady l i))
        replace hx0 : wr.cell? (ad.add (i * 3)) = some (.bool true) := hx0
        clear hk hx1
        go_wp2
        go_roundg k1
        case measure => omega
        case rel => exact ⟨i + 1, by simp, ⟨by have := HK.out; omega⟩, ⟨by rw [HS.out]; exact HO.out⟩, HB⟩
set_option maxHeartbeats 2000000 in
theorem r_Pick (k : Int) (h1 : -9223372036854775808 ≤ k) (h2 : k ≤ 9223372036854775807) (hI : IsR ok w0 w g l) : Calls Try.prog 19 #[.pointer (some ⟨g, 0, none⟩), .int .i64 k] w fun e w' => e = .returned (.tuple #[.int .i64 (pickR l k).1, .bool (pickR l k).2]) ∧ Below w.heap.size w w' := by
  have HI := Aside0.mk hI
  clear hI
  have hu22 := Try.underlying22
  unfold pickR
  by_cases h0 : tReady l = []
  · rw [if_pos h0]
    go_enter Try.func19, Try.ntmps19
    go_wp2_with (go_at_call 18; (with_reducible refine (r_Ready HI.out).mono ?_); rintro e w' ⟨v, rfl, hR, hB⟩; rw [h0] at hR; obtain ⟨A, c, rfl, hc, hC⟩ := Kd.R_reads hR; have HB := Aside0.mk hB; clear hR hC hB)
    go_ret2
    exact ⟨rfl, HB.out⟩
  · rw [if_neg h0]
    have hp : 0 < (tReady l).length := List.length_pos_iff.2 h0
    have hpn : ¬ (tReady l).length = 0 := by omega
    have hm := tmod_in (absK k) (tReady l).length (absK_pos k) hp
    generalize hq : Int.tmod (absK k) (tReady l).length = q at hm ⊢
    have HQ := Aside0.mk hq
    obtain ⟨m1, m2⟩ := hm
    clear h0 hq
    by_cases hk : k < 0
    · have hw : Int.tmod (absK k) (tReady l).length = -(Int.tmod (k + 1) (tReady l).length) := by unfold absK; rw [if_pos hk, Int.neg_tmod]
      rw [hw] at HQ
      clear hw
      obtain rfl := HQ.out
      clear HQ
      have m3 : Int.tmod (k + 1) (tReady l).length ≤ 0 := by omega
      go_enter Try.func19, Try.ntmps19
      go_wp2_with (go_at_call 18; (with_reducible refine (r_Ready HI.out).mono ?_); rintro e w' ⟨v, rfl, hR, hB⟩; obtain ⟨A, c, rfl, hc, hC⟩ := Kd.R_reads hR; have HB := Aside0.mk hB; obtain ⟨ad, e, hx⟩ := Kd.at_int hC _ m1 m2; cases e; clear hR hC hB)
      go_ret2
      exact ⟨rfl, HB.out⟩
    · have hw : absK k = k := by unfold absK; rw [if_neg hk]
      rw [hw] at HQ
      clear hw
      go_enter Try.func19, Try.ntmps19
      go_wp2_with (go_at_call 18; (with_reducible refine (r_Ready HI.out).mono ?_); rintro e w' ⟨v, rfl, hR, hB⟩; obtain ⟨A, c, rfl, hc, hC⟩ := Kd.R_reads hR; have HB := Aside0.mk hB; have HQ2 := HQ.out; obtain ⟨ad, e, hx⟩ := Kd.at_int hC q m1 m2; cases e; clear hR hC hB)
      go_ret2
      exact ⟨rfl, HB.out⟩
end
end Go.Proofs.Ytcndpclnjnbppaa.Q
