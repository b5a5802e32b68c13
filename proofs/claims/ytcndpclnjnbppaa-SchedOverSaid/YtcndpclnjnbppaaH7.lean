import Derived.Test.YtcndpclnjnbppaaH6
import Derived.Outline
namespace Go.Proofs.Ytcndpclnjnbppaa.Q
open Go.RowKit Go.Proofs.YtcndpclnjnbppaaW.PrintWords Go.Proofs.YtcndpclnjnbppaaW.PrintLast Go.Proofs.YtcndpclnjnbppaaW.PrintMore
set_option linter.unusedVariables false
set_option linter.unusedSimpArgs false
theorem take_rd (L : List Int) (i : Nat) (h : i < L.length) : L.take (i + 1) = L.take i ++ [rd L (i : Int)] := by
  rw [List.take_add_one, List.getElem?_eq_getElem h]
  simp [rd, List.getD_eq_getElem?_getD, List.getElem?_eq_getElem h]
theorem rd_mem (L : List Int) (i : Nat) (h : i < L.length) : rd L (i : Int) ∈ L := by
  unfold rd
  rw [List.getD_eq_getElem?_getD, Int.toNat_natCast, List.getElem?_eq_getElem h]
  exact List.getElem_mem h
section
variable {ok : Nat → Prop} {w0 w : World} {g : Nat} {l : List S54}
set_option maxHeartbeats 4000000 in
theorem t_Wake (v : Int) (hI : IsT ok w0 w g l) (hB : Below w0.heap.size w0 w) : Calls Try.prog 12 #[.pointer (some ⟨g, 0, none⟩), .int .i64 v] w fun e w' => ∃ u, e = .returned u ∧ Kd.R (Kd.int .i64) 3 w' w.heap.size (fun _ => True) u (wakeR l v) ∧ IsT ok w0 w' g (wakeL l v) ∧ Below w0.heap.size w0 w' ∧ KeepE 52 54 w w' := by
  have HI := Aside0.mk (hI.below (below_alloc (Below.refl _ _) (.cells #[.int .i64 v] 3)))
  have HB := Aside0.mk (below_alloc hB (.cells #[.int .i64 v] 3))
  have HS := Aside0.mk hB.size
  have HG := Aside0.mk hI.2.1
  have hu50 := Try.underlying50
  have hu52 := Try.underlying52
  have hu54 := Try.underlying54
  have hu22 := Try.underlying22
  have hmf : ∀ (fn : Fn) (first cap : Array Value) (w : World), (Instr.makeFunc fn first cap).run Try.prog w = .ok (.func fn first cap) w := fun _ _ _ _ => rfl
  clear hI hB
  obtain ⟨A, c, hc, hf, hlc, hC⟩ := HI.out.open_
  have HT := Aside0.mk (t_of (waitsFor v) 29 Try.f29 #[.pointer (some ⟨w.heap.size, 0, none⟩)] Try.func29 (by kernel_rfl) rfl g l A c (w.alloc (.cells #[.int .i64 v] 3)) hc hlc hC HG.out.1 (fun x A c W hx hW h1 h2 => (wake1 x v A c w.heap.size W (by have := (HG.out.2 x hx).2; omega) h1 h2 (blk_below (blk_new w _) hW))))
  clear hC hlc hc hf
  have HM := Aside0.mk (fun n hn => (mem_tOf (waitsFor v) l n).1 hn)
  have HW := Aside0.mk (setAll_wake l v)
  have hLl := Nat.le_trans (ofTo_len (waitsFor v) l l.length) HG.out.1
  change (tOf (waitsFor v) l).length ≤ 8 at hLl
  have hw : wakeR l v = tOf (waitsFor v) l := rfl
  rw [hw] at HW ⊢
  clear hw
  generalize tOf (waitsFor v) l = L at *
  go_enter Try.func12, Try.ntmps12
  go_wp2_with (go_at_call 28; (with_reducible refine HT.out.mono ?_); rintro e w1 ⟨u, rfl, hR, hB⟩; obtain ⟨A1, c1, rfl, hlc1, hC1⟩ := Kd.R_reads hR; have HR1 := Aside0.mk (Kd.R_lower hR (by simp : w.heap.size ≤ _)); have HI1 := Aside0.mk (HI.out.below hB); have HB1 := Aside0.mk (below_then HB.out (Nat.le_trans HS.out (by simp)) hB); have HK1 := Aside0.mk ((KeepE.of_below (a := 52) (b := 54) (below_alloc (Below.refl _ _) (.cells #[.int .i64 v] 3))).below hB); clear hR hB hC1)
  go_loopg [13] L.length (fun kq v13 w' => ∃ (i : Nat), v13 = .int .i64 (i : Int) ∧ Aside0 (i + kq = L.length) ∧ Aside0 (Kd.R (Kd.int .i64) 3 w' w.heap.size (fun _ => True) (.slice A1 L.length c1) L) ∧ Aside0 (IsT ok w0 w' g (setAll l (L.take i))) ∧ Aside0 (Below w0.heap.size w0 w') ∧ Aside0 (KeepE 52 54 w w'))
  case atStart => exact ⟨0, rfl, ⟨by omega⟩, HR1, HI1, HB1, HK1⟩
  case round =>
    obtain ⟨i, rfl, HK, HR2, HI2, HB2, HK2⟩ := hrel
    cases gk with
    | zero =>
      have hd : decide (i < L.length) = false := decide_eq_false (by have := HK.out; omega)
      have HIL : Aside0 (L.take i = L) := ⟨List.take_of_length_le (by have := HK.out; omega)⟩
      rw [HIL.out, HW.out] at HI2
      go_wp2
      go_ret
      exact ⟨_, rfl, HR2.out, HI2.out, HB2.out, HK2.out⟩
    | succ k1 =>
      have hi : i < L.length := by have := HK.out; omega
      have hd : decide (i < L.length) = true := decide_eq_true (by omega)
      obtain ⟨ad, e, hx⟩ := Kd.at_int (Kd.R_reads' HR2.out).2.2 (i : Int) (by omega) (by omega)
      cases e
      rw [Int.toNat_natCast] at hx
      have ht := take_rd L i hi
      obtain ⟨m0, m1, _⟩ := HM.out _ (rd_mem L i hi)
      generalize rd L (i : Int) = n at *
      obtain ⟨b, c, v1, hc0, hf0, hx0, hx1, hz0, hz1, hst⟩ := HI2.out.elem HB2.out n m0 (by rw [setAll_length]; exact m1)
      obtain ⟨s1, s2, s3⟩ := hst z54 (.slice none 0 0) (fun _ => False) OkX.z (Kd.R_nil _ _ _ _ _) (fun _ hk => hk.elim)
      rw [← setAll_snoc, ← ht] at s1
      have S1 := Aside0.mk s1
      have S2 := Aside0.mk (HK2.out.trans s2)
      have S3 := Aside0.mk s3
      have S4 := Aside0.mk (R_keepE HR2.out s2 (by intro q hq; rw [show q = 3 by simpa [Kd.int, Kd.scalar] using hq]; decide))
      rw [setAll_length] at hc0
      clear hst s1 s2 s3 ht
      have hdn0 := decide_eq_true m0
      have hdn1 := decide_eq_true m1
      go_wp2
      go_roundg k1
      case measure => omega
      case rel => exact ⟨i + 1, by simp, ⟨by have := HK.out; omega⟩, S4, S1, S3, S2⟩
end
end Go.Proofs.Ytcndpclnjnbppaa.Q
