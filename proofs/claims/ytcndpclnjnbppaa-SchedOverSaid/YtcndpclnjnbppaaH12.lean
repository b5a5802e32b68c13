import Derived.Test.YtcndpclnjnbppaaH11
import Derived.Outline
namespace Go.Proofs.Ytcndpclnjnbppaa.Q
open Go.RowKit Go.Proofs.YtcndpclnjnbppaaW.PrintWords Go.Proofs.YtcndpclnjnbppaaW.PrintLast Go.Proofs.YtcndpclnjnbppaaW.PrintMore
set_option linter.unusedVariables false
set_option linter.unusedSimpArgs false
section
variable {ok ok' : Nat → Prop} {w0 w : World} {g : Nat} {l : List S54}
theorem IsR.mono (h : IsR ok w0 w g l) (hk : ∀ k, ok k → ok' k) : IsR ok' w0 w g l := by
  obtain ⟨h0, h1, v, hv, hr⟩ := h
  exact ⟨h0, h1, v, hv, Kd.R_mono hr hk⟩
theorem IsT.mono (h : IsT ok w0 w g l) (hk : ∀ k, ok k → ok' k) : IsT ok' w0 w g l := by
  obtain ⟨h0, h1, v, hv, hr⟩ := h
  exact ⟨h0, h1, v, hv, Kd.R_mono hr hk⟩
theorem IsR.bound (h : IsR ok w0 w g l) : IsR (fun k => ok k ∧ k < w.heap.size) w0 w g l := by
  obtain ⟨h0, h1, v, hv, hr⟩ := h
  exact ⟨h0, h1, v, hv, Kd.R_mono (Kd.R_bound hr) (fun k hk => ⟨hk.1, hk.2.2.1⟩)⟩
theorem IsT.bound (h : IsT ok w0 w g l) : IsT (fun k => ok k ∧ k < w.heap.size) w0 w g l := by
  obtain ⟨h0, h1, v, hv, hr⟩ := h
  exact ⟨h0, h1, v, hv, Kd.R_mono (Kd.R_bound hr) (fun k hk => ⟨hk.1, hk.2.2.1⟩)⟩
theorem IsR.lt (h : IsR ok w0 w g l) : g < w.heap.size := by
  obtain ⟨_, _, v, hv, _⟩ := h
  exact blk_lt hv
theorem IsT.lt (h : IsT ok w0 w g l) : g < w.heap.size := by
  obtain ⟨_, _, v, hv, _⟩ := h
  exact blk_lt hv
theorem IsR.grown {w1 : World} {row : Option Nat} (h : IsR ok w0 w g l) (hg : w.grownBy w1 row) (hr : ∀ k, ok k → some k ≠ row) (hn : some g ≠ row) : IsR ok w0 w1 g l := by
  obtain ⟨h0, h1, v, hv, hr2⟩ := h
  exact ⟨h0, h1, v, (hg.block g (blk_lt hv) hn).trans hv, Kd.R_grown hr2 hg hr⟩
theorem IsT.grown {w1 : World} {row : Option Nat} (h : IsT ok w0 w g l) (hg : w.grownBy w1 row) (hr : ∀ k, ok k → some k ≠ row) (hn : some g ≠ row) : IsT ok w0 w1 g l := by
  obtain ⟨h0, h1, v, hv, hr2⟩ := h
  exact ⟨h0, h1, v, (hg.block g (blk_lt hv) hn).trans hv, Kd.R_grown hr2 hg hr⟩
theorem KeepE.grown_new {a b : Nat} {w w1 w2 : World} {row : Option Nat} (h : KeepE a b w w1) (hg : w1.grownBy w2 row) (hr : ∀ k, row = some k → w.heap.size ≤ k) : KeepE a b w w2 :=
  ⟨Nat.le_trans h.1 hg.size, fun i cs t fr hi h1 h2 => by
    have e := h.2 i cs t fr hi h1 h2
    rw [hg.block i (Nat.lt_of_lt_of_le (blk_lt hi) h.1) (fun he => by
      have h3 := hr i he.symm
      have h4 := blk_lt hi
      omega), e]⟩
theorem contains_take (xs : List Int) (v : Int) (j : Nat) (hj : j < xs.length) : (xs.take (j + 1)).contains v = ((xs.take j).contains v || (rd xs (j : Int) == v)) := by
  rw [take_rd xs j hj]
  by_cases h : rd xs (j : Int) = v
  · simp [h]
  · have h' : ¬ v = rd xs (j : Int) := fun e => h e.symm
    simp [h, h']
theorem rd_setAll (p : S54 → Bool) (i : Nat) (hi : i < l.length) : rd_T54 (setAll l (ofTo p l i)) (i : Int) = rd_T54 l (i : Int) := by
  have hn : ∀ n ∈ ofTo p l i, 0 ≤ n ∧ n < (i : Int) := by
    intro n hn
    unfold ofTo at hn
    obtain ⟨k, hk, rfl⟩ := List.mem_map.1 hn
    rw [List.mem_filter, List.mem_range] at hk
    exact ⟨by omega, by omega⟩
  unfold rd_T54
  rw [List.getD_eq_getElem?_getD, List.getD_eq_getElem?_getD, Int.toNat_natCast, setAll_get l _ (fun n h => (hn n h).1) i hi, if_neg (fun h => by have := (hn _ h).2; omega)]
/-- A thread is woken: the store, then the append. -/
theorem wake_step {v : Int} {i : Nat} {W W1 : World} {u : Value} (hi : i < l.length) (hS : IsR ok w0 W g ((setAll l (ofTo (waitsFor v) l i)).set i z54)) (hw : waitsFor v (rd_T54 l (i : Int)) = true) : IsR ok w0 W g (setAll l (ofTo (waitsFor v) l (i + 1))) := by
  have hgd : l.getD i z54 = rd_T54 l (i : Int) := by unfold rd_T54; rw [Int.toNat_natCast]
  rw [ofTo_succ, hgd, if_pos hw, setAll_snoc, Int.toNat_natCast]
  exact hS
set_option maxHeartbeats 4000000 in
theorem r_Wake (v : Int) (hI : IsR ok w0 w g l) (hB : Below w0.heap.size w0 w) : Calls Try.prog 25 #[.pointer (some ⟨g, 0, none⟩), .int .i64 v] w fun e w' => ∃ u, e = .returned u ∧ Kd.R (Kd.int .i64) 3 w' w.heap.size (fun _ => True) u (wakeR l v) ∧ IsR ok w0 w' g (wakeL l v) ∧ Below w0.heap.size w0 w' ∧ KeepE 38 59 w w' := by
  have HG := Aside0.mk hI.2.1
  have hl8 := hI.2.1.1
  have HI0 := Aside0.mk hI.bound
  have HLT := Aside0.mk hI.lt
  have HB0 := Aside0.mk hB
  have hu36 := Try.underlying36
  have hu38 := Try.underlying38
  have hu59 := Try.underlying59
  have hu22 := Try.underlying22
  have HSW := Aside0.mk (setAll_wake l v)
  clear hI hB
  go_enter Try.func25, Try.ntmps25
  go_wp2
  go_loopg [5, 6] l.length (fun kq v5 v6 w' => ∃ (i : Nat), v6 = .int .i64 (i : Int) ∧ Aside0 (i + kq = l.length) ∧ Aside0 (Kd.R (Kd.int .i64) 3 w' w.heap.size (fun _ => True) v5 (ofTo (waitsFor v) l i)) ∧ Aside0 (IsR (fun k => ok k ∧ k < w.heap.size) w0 w' g (setAll l (ofTo (waitsFor v) l i))) ∧ Aside0 (Below w0.heap.size w0 w') ∧ Aside0 (KeepE 38 59 w w'))
  case atStart => exact ⟨0, rfl, ⟨by omega⟩, ⟨Kd.R_nil _ _ _ _ _⟩, HI0, HB0, ⟨KeepE.refl _⟩⟩
  case round =>
    obtain ⟨i, rfl, HK, HO, HI, HB, HKE⟩ := hrel
    obtain ⟨A, c, hcell, hf, hlc, hC⟩ := HI.out.open_
    rw [setAll_length] at hcell hlc
    have HCELL := Aside0.mk hcell
    cases gk with
    | zero =>
      have hd : decide (i < l.length) = false := decide_eq_false (by have := HK.out; omega)
      have hi : i = l.length := by have := HK.out; omega
      have HII := Aside0.mk hi
      clear hi hC
      go_wp2
      go_ret
      have h1 := HO.out
      have h2 := HI.out
      rw [HII.out] at h1 h2
      have h3 : setAll l (ofTo (waitsFor v) l l.length) = wakeL l v := HSW.out
      rw [h3] at h2
      exact ⟨_, rfl, h1, h2.mono (fun k hk => hk.1), HB.out, HKE.out⟩
    | succ k1 =>
      have hi : i < l.length := by have := HK.out; omega
      have hd : decide (i < l.length) = true := decide_eq_true (by omega)
      have p1 : (0 : Int) ≤ (i : Int) := by omega
      have q1 : (i : Int) < (l.length : Int) := by omega
      obtain ⟨ad, A2, c2, e, hx0, hx1, hx2, hlc2, hC2⟩ := at_R hC (i : Int) p1 (by rw [setAll_length]; exact q1)
      cases e
      rw [rd_setAll _ i hi] at hx0 hx1 hx2 hlc2 hC2
      rw [Int.toNat_natCast] at hx0 hx1 hx2
      clear hC
      have HC2 := Aside0.mk hC2
      have HI2 := Aside0.mk hi
      have hgd : l.getD i z54 = rd_T54 l (i : Int) := by unfold rd_T54; rw [Int.toNat_natCast]
      have HS := Aside0.mk (ofTo_succ (waitsFor v) l i)
      rw [hgd] at HS
      have HLEN := Aside0.mk (ofTo_len (waitsFor v) l i)
      have hkind := (HG.out.get (i : Int)).1
      have hxl := (HG.out.get (i : Int)).2
      have HST := Aside0.mk (HI.out.elem HB.out (i : Int) p1 (by rw [setAll_length]; exact q1))
      rw [rd_setAll _ i hi, setAll_length, Int.toNat_natCast] at HST
      replace p1 := eq_true p1
      replace q1 := eq_true q1
      clear hC2 hgd
      have HWS := Aside0.mk (fun (W : World) (hS : IsR (fun k => ok k ∧ k < w.heap.size) w0 W g ((setAll l (ofTo (waitsFor v) l i)).set i z54)) hw => wake_step (W1 := W) (u := .slice none 0 0) hi hS hw)
      generalize hx : rd_T54 l (i : Int) = x at *
      obtain ⟨wo, rfl⟩ : ∃ wo : World, wo = wr := ⟨_, rfl⟩
      go_wp2
      go_loopg [7, 8] x.f1.length (fun kq v7 v8 w' => ∃ (j : Nat) (b : Bool), v7 = .bool b ∧ v8 = .int .i64 (j : Int) ∧ Aside0 (j + kq = x.f1.length) ∧ Aside0 (b = (x.f1.take j).contains v) ∧ w' = wo)
      case atStart => exact ⟨0, false, rfl, rfl, ⟨by omega⟩, ⟨rfl⟩, rfl⟩
      case round =>
        obtain ⟨j, b, rfl, rfl, HJ, HBV, rfl⟩ := hrel
        cases gk with
        | zero =>
          have hdj : decide (j < x.f1.length) = false := decide_eq_false (by have := HJ.out; omega)
          have hb : b = x.f1.contains v := by rw [HBV.out, List.take_of_length_le (by have := HJ.out; omega)]
          have HBB := Aside0.mk hb
          clear hb
          have HNO : waitsFor v x = false → Aside0 (ofTo (waitsFor v) l (i + 1) = ofTo (waitsFor v) l i) := fun h => ⟨by rw [HS.out, h]; simp⟩
          rcases hkind with hk | hk | hk
          · have HN := HNO (by unfold waitsFor; rw [hk]; rfl)
            rw [hk] at hx1
            replace hx1 : wr.cell? ⟨(ad.add (i * 3)).block, (ad.add (i * 3)).off + 1, none⟩ = some (.bool false) := hx1
            clear hk HNO HST hx0
            go_wp2
            go_roundg k1
            case measure => omega
            case rel => exact ⟨i + 1, by simp, ⟨by have := HK.out; omega⟩, ⟨by rw [HN.out]; exact HO.out⟩, ⟨by rw [HN.out]; exact HI.out⟩, HB, HKE⟩
          · rw [hk] at hx1
            replace hx1 : wr.cell? ⟨(ad.add (i * 3)).block, (ad.add (i * 3)).off + 1, none⟩ = some (.bool true) := hx1
            cases b
            · have HN := HNO (by unfold waitsFor; rw [← HBB.out]; simp)
              clear hk HNO HST hx0
              go_wp2
              go_roundg k1
              case measure => omega
              case rel => exact ⟨i + 1, by simp, ⟨by have := HK.out; omega⟩, ⟨by rw [HN.out]; exact HO.out⟩, ⟨by rw [HN.out]; exact HI.out⟩, HB, HKE⟩
            · have hw : waitsFor v x = true := by unfold waitsFor; rw [← HBB.out, hk]; rfl
              obtain ⟨b', c', v1, hc0, hf0, hy0, hy1, hy2, hz0, hz1, hz2, hst⟩ := HST.out
              obtain ⟨s1, s2, s3⟩ := hst z54 (.slice none 0 0) (fun _ => False) OkX.z (Kd.R_nil _ _ _ _ _) (fun _ hk => hk.elim)
              rw [HCELL.out] at hc0
              injection hc0 with hc0
              injection hc0 with hc0 _ hc1
              injection hc0 with hc0
              subst hc0; subst hc1
              rw [hk] at hy1
              replace hy1 : wr.cell? ⟨b', i * 3 + 1, none⟩ = some (.bool true) := hy1
              generalize hW3 : ((wr.setCell ⟨b', i * 3, none⟩ (.bool false)).setCell ⟨b', i * 3 + 1, none⟩ (.bool false)).setCell ⟨b', i * 3 + 2, none⟩ (.slice none 0 0) = W3
              have S1 : Aside0 (IsR (fun k => ok k ∧ k < w.heap.size) w0 W3 g (setAll l (ofTo (waitsFor v) l (i + 1)))) := ⟨HWS.out W3 (by rw [← hW3]; exact s1) hw⟩
              have S2 : Aside0 (KeepE 38 59 w W3) := ⟨by rw [← hW3]; exact HKE.out.trans s2⟩
              have S3 : Aside0 (Below w0.heap.size w0 W3) := ⟨by rw [← hW3]; exact s3⟩
              have S4 : Aside0 (Kd.R (Kd.int .i64) 3 W3 w.heap.size (fun _ => True) u5 (ofTo (waitsFor v) l i)) := ⟨by rw [← hW3]; exact R_keepE HO.out s2 (by intro q hq; rw [show q = 3 by simpa [Kd.int, Kd.scalar] using hq]; decide)⟩
              have HSY : Aside0 (ofTo (waitsFor v) l (i + 1) = ofTo (waitsFor v) l i ++ [(i : Int)]) := ⟨by rw [HS.out, hw]; simp⟩
              rw [add_plain] at hx2
              replace hx2 : wr.cell? ⟨b', i * 3 + 2, none⟩ = some (.slice A2 x.f1.length c2) := hx2
              clear hst s1 s2 s3 hk hw HST HWS HNO hx0 hx1 hy2
              go_wp2_with (first | ((with_reducible refine gate_builtin (b := .append) (xs := #[.tmp 65, .tmp 67]) rfl ?_); at_builtin; (try rw [hW3]); refine Kd.R_append (Kd.int .i64) (w0 := W3) w.heap.size rfl (.tmp 65) (.tmp 67) 22 3 (.int .i64 0) 8 rfl Try.underlying22 info3 rfl (by decide) (by omega) u5 (ofTo (waitsFor v) l i) (i : Int) [.int .i64 (i : Int)] (fun _ => True) (fun _ => False) rfl rfl rfl (fun _ hk => hk.elim) (fun _ _ => trivial) S4.out (Below.refl _ _) S2.out.1 (by have := HLEN.out; have := HI2.out; omega) ?_; intro v5' w6 ho hb hgr hat; rw [← HSY.out] at ho; have HO6 := Aside0.mk ho; have R1 := Aside0.mk (S1.out.grown hgr (fun k hk he => by have h5 := Kd.R_base S4.out k he.symm; have h6 := hk.2; omega) (fun he => by have h5 := Kd.R_base S4.out g he.symm; have h6 := HLT.out; omega)); have R2 := Aside0.mk (S2.out.grown_new hgr (fun k hk => Kd.R_base S4.out k hk)); have R3 := Aside0.mk (S3.out.grown hgr S3.out.size (fun k hk => Nat.le_trans HB0.out.size (Kd.R_base S4.out k hk))); clear ho hb hgr hat))
              go_roundg k1
              case measure => omega
              case rel => exact ⟨i + 1, by simp, ⟨by have := HK.out; omega⟩, HO6, R1, R3, R2⟩
          · have HN := HNO (by unfold waitsFor; rw [hk]; rfl)
            rw [hk] at hx1
            replace hx1 : wr.cell? ⟨(ad.add (i * 3)).block, (ad.add (i * 3)).off + 1, none⟩ = some (.bool false) := hx1
            clear hk HNO HST hx0
            go_wp2
            go_roundg k1
            case measure => omega
            case rel => exact ⟨i + 1, by simp, ⟨by have := HK.out; omega⟩, ⟨by rw [HN.out]; exact HO.out⟩, ⟨by rw [HN.out]; exact HI.out⟩, HB, HKE⟩
        | succ k2 =>
          have hj : j < x.f1.length := by have := HJ.out; omega
          have hdj : decide (j < x.f1.length) = true := decide_eq_true (by omega)
          have p2 : (0 : Int) ≤ (j : Int) := by omega
          have q2 : (j : Int) < (x.f1.length : Int) := by omega
          obtain ⟨ad2, e, hy⟩ := Kd.at_int HC2.out (j : Int) p2 q2
          cases e
          rw [Int.toNat_natCast] at hy
          have HCT := Aside0.mk (contains_take x.f1 v j hj)
          replace p2 := eq_true p2
          replace q2 := eq_true q2
          cases b
          · by_cases hv : (rd x.f1 (j : Int) == v) = true
            · rw [hv, ← HBV.out] at HCT
              go_wp2
              go_roundg k2
              case measure => omega
              case rel => exact ⟨j + 1, true, rfl, by simp, ⟨by have := HJ.out; omega⟩, ⟨HCT.out.symm⟩, rfl⟩
            · replace hv := Bool.eq_false_iff.2 hv
              rw [hv, ← HBV.out] at HCT
              go_wp2
              go_roundg k2
              case measure => omega
              case rel => exact ⟨j + 1, false, rfl, by simp, ⟨by have := HJ.out; omega⟩, ⟨HCT.out.symm⟩, rfl⟩
          · rw [← HBV.out] at HCT
            go_wp2
            go_roundg k2
            case measure => omega
            case rel => exact ⟨j + 1, true, rfl, by simp, ⟨by have := HJ.out; omega⟩, ⟨HCT.out.symm⟩, rfl⟩
end
end Go.Proofs.Ytcndpclnjnbppaa.Q
