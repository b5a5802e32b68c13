import Derived.Test.YtcndpclnjnbppaaH9
import Derived.Outline
namespace Go.Proofs.Ytcndpclnjnbppaa.Q
open Go.RowKit Go.Proofs.YtcndpclnjnbppaaW.PrintWords Go.Proofs.YtcndpclnjnbppaaW.PrintLast Go.Proofs.YtcndpclnjnbppaaW.PrintMore
set_option linter.unusedVariables false
set_option linter.unusedSimpArgs false
section
variable {ok : Nat → Prop} {w0 w : World} {g : Nat} {l : List S54}
/-- What an append to a table's row leaves. -/
theorem IsR.appended {w1 w2 : World} {v v1 : Value} {x : S54} (hI : IsR ok w0 w g l) (hx : Good (l ++ [x])) (hv : w1.heap[g]? = some (.cells #[v] 38 (0, 0))) (hb : Below w.heap.size w w1) (hty : ∀ k, v.ownBlock = some k → ∃ cs, w1.heap[k]? = some (.cells cs 59 (0, 0))) (hr : kR.R 59 w2 w0.heap.size ok v1 (l ++ [x])) (hB : Below w0.heap.size w0 w2) (hg : w1.grownBy w2 v.ownBlock) :
    IsR ok w0 (w2.setCell ⟨g, 0, none⟩ v1) g (l ++ [x]) ∧ Below w0.heap.size w0 (w2.setCell ⟨g, 0, none⟩ v1) ∧ KeepE 38 59 w (w2.setCell ⟨g, 0, none⟩ v1) ∧ w2.heap[g]? = some (.cells #[v] 38 (0, 0)) := by
  have hv2 : w2.heap[g]? = some (.cells #[v] 38 (0, 0)) := by
    refine (hg.block g (blk_lt hv) ?_).trans hv
    intro he
    obtain ⟨cs, hc⟩ := hty g he.symm
    rw [hv] at hc
    injection hc with hc
    injection hc with _ ht
    exact absurd ht (by decide)
  refine ⟨⟨hI.1, hx, v1, blk_put hv2 0 v1 rfl, ?_⟩, below_set hB hI.1, ?_, hv2⟩
  · exact Kd.R_set hr hv2 (ty_59 (by decide) (by decide)) 0 v1
  · refine (KeepE.of_below hb).trans ((KeepE.grown hg (fun k hk => ?_)).trans (KeepE.setCell (.inl hv2) v1))
    obtain ⟨cs, hc⟩ := hty k hk
    exact ⟨cs, .inr hc⟩
set_option maxHeartbeats 2000000 in
theorem r_Add (hI : IsR ok w0 w g l) (hB : Below w0.heap.size w0 w) (hok : ∀ k, w.heap.size ≤ k → ok k) : Calls Try.prog 32 #[.pointer (some ⟨g, 0, none⟩)] w fun e w' => e = .returned (.tuple #[.int .i64 (addR l).1, .int .i64 (addR l).2]) ∧ IsR ok w0 w' g (addL l) ∧ Below w0.heap.size w0 w' ∧ KeepE 38 59 w w' := by
  have HI := Aside0.mk hI
  have HOK := Aside0.mk hok
  have HB := Aside0.mk hB
  have hu36 := Try.underlying36
  have hu38 := Try.underlying38
  have hu59 := Try.underlying59
  obtain ⟨hg, hG, v, hv, hr⟩ := hI
  obtain ⟨A, c, rfl, hlc, hC⟩ := Kd.R_reads hr
  have hc : w.cell? ⟨g, 0, none⟩ = some (.slice A l.length c) := (blk_cell hv 0).trans rfl
  have hf : w.frozen? ⟨g, 0, none⟩ = false := blk_frozen hv 0
  have HV := Aside0.mk hv
  have HR := Aside0.mk hr
  clear hok hB hC hr hG
  unfold addR addL
  by_cases h8 : l.length < 8
  · rw [if_pos h8, if_pos h8]
    have h8n : ¬ l.length = 8 := by omega
    have h8b : ((l.length : Int) == 8) = false := by rw [beq_eq_false_iff_ne]; omega
    have H8 := Aside0.mk h8
    have hlt := blk_lt hv
    clear hv
    go_enter Try.func32, Try.ntmps32
    go_wp2_with (first | ((with_reducible refine gate_builtin (b := .append) (xs := #[.tmp 14, .tmp 16]) rfl ?_); at_builtin; refine Kd.R_append kR (w0 := w0) w0.heap.size rfl (.tmp 14) (.tmp 16) 36 59 (.agg #[.bool false, .bool false, .slice none 0 0]) 32 rfl Try.underlying36 info59 rfl (by decide) (by omega) (.slice A l.length c) l z54 [.bool false, .bool false, .slice none 0 0] ok (fun _ => False) rfl rfl (k59_mkM _ _ _ (toR z54) (Kd.R_nil _ _ _ _ _)) (fun _ hk => hk.elim) HOK.out HR.out HB.out HB.out.size (by have := H8.out; omega) ?_; intro v1 w1 ho hb hgr hat; obtain ⟨A1, c1, rfl, hlc1, hC1⟩ := Kd.R_reads ho; obtain ⟨P1, P2, P3, P4⟩ := HI.out.appended (x := z54) (HI.out.2.1.add H8.out) HV.out (Below.refl _ _) (fun k hk => Kd.R_typed HR.out k hk) ho hb hgr; rw [show (l ++ [z54]).length = l.length + 1 from by simp] at P1 P2 P3; have hz1 : w1.cell? ⟨g, 0, none⟩ = some (.slice A l.length c) := (blk_cell P4 0).trans rfl; have hz2 := blk_frozen P4 0; have AP1 := Aside0.mk P1; have AP2 := Aside0.mk P2; have AP3 := Aside0.mk P3; clear P1 P2 P3 P4 ho hb hgr hat hC1 hlc1))
    go_ret2
    exact ⟨rfl, AP1.out, AP2.out, AP3.out⟩
  · rw [if_neg h8, if_neg h8]
    have h8n : l.length = 8 := by have := HI.out.2.1.1; omega
    have h8b : ((l.length : Int) == 8) = true := by rw [beq_iff_eq]; omega
    clear hv
    go_enter Try.func32, Try.ntmps32
    go_wp2
    go_ret2
    exact ⟨rfl, HI.out, HB.out, KeepE.refl _⟩
theorem tIs_get (n k : Int) (h0 : 0 ≤ n) (h1 : n < (l.length : Int)) : tIs l n k = ((rd_T54 l n).f0 == k) := by
  unfold tIs
  rw [decide_eq_true h0, decide_eq_true h1]
  rfl
theorem tIs_out (n k : Int) (h : ¬ (0 ≤ n ∧ n < (l.length : Int))) : tIs l n k = false := by
  unfold tIs
  by_cases h0 : 0 ≤ n
  · rw [decide_eq_false (show ¬ n < (l.length : Int) from fun h1 => h ⟨h0, h1⟩)]
    simp
  · rw [decide_eq_false h0]
    rfl
set_option maxHeartbeats 2000000 in
theorem r_End (n : Int) (hI : IsR ok w0 w g l) (hB : Below w0.heap.size w0 w) : Calls Try.prog 24 #[.pointer (some ⟨g, 0, none⟩), .int .i64 n] w fun e w' => e = .returned (.int .i64 (endR l n)) ∧ IsR ok w0 w' g (endL l n) ∧ Below w0.heap.size w0 w' ∧ KeepE 38 59 w w' := by
  have HI := Aside0.mk hI
  have HB := Aside0.mk hB
  have hu36 := Try.underlying36
  have hu38 := Try.underlying38
  have hu59 := Try.underlying59
  unfold endR endL
  by_cases hn : 0 ≤ n ∧ n < (l.length : Int)
  · obtain ⟨h0, h1⟩ := hn
    rw [tIs_get n 0 h0 h1, tIs_get n 1 h0 h1]
    have h0' : ¬ n < 0 := by omega
    have h1' : ¬ (l.length : Int) ≤ n := by omega
    obtain ⟨b, c, v1, hc0, hf0, hx0, hx1, hx2, hz0, hz1, hz2, hst⟩ := hI.elem hB n h0 h1
    obtain ⟨s1, s2, s3⟩ := hst ⟨2, []⟩ (.slice none 0 0) (fun _ => False) ⟨.inr (.inr rfl), by simp⟩ (Kd.R_nil _ _ _ _ _) (fun _ hk => hk.elim)
    have S1 := Aside0.mk s1
    have S2 := Aside0.mk s2
    have S3 := Aside0.mk s3
    have hkind := (hI.2.1.get n).1
    have d0 := decide_eq_true h0
    have d1 := decide_eq_true h1
    clear hI hB hst s1 s2 s3
    generalize hx : rd_T54 l n = x at *
    rcases hkind with hk | hk | hk
    · rw [hk] at hx0 hx1 ⊢
      replace hx0 : w.cell? ⟨b, n.toNat * 3, none⟩ = some (.bool false) := hx0
      replace hx1 : w.cell? ⟨b, n.toNat * 3 + 1, none⟩ = some (.bool false) := hx1
      clear hk hx
      go_enter Try.func24, Try.ntmps24
      go_wp2
      go_ret
      exact ⟨rfl, S1.out, S3.out, S2.out⟩
    · rw [hk] at hx0 hx1 ⊢
      replace hx0 : w.cell? ⟨b, n.toNat * 3, none⟩ = some (.bool false) := hx0
      replace hx1 : w.cell? ⟨b, n.toNat * 3 + 1, none⟩ = some (.bool true) := hx1
      clear hk hx
      go_enter Try.func24, Try.ntmps24
      go_wp2
      go_ret
      exact ⟨rfl, S1.out, S3.out, S2.out⟩
    · rw [hk] at hx0 hx1 ⊢
      replace hx0 : w.cell? ⟨b, n.toNat * 3, none⟩ = some (.bool true) := hx0
      clear hk hx hx1
      go_enter Try.func24, Try.ntmps24
      go_wp2
      go_ret
      exact ⟨rfl, HI.out, HB.out, KeepE.refl _⟩
  · rw [tIs_out n 0 hn, tIs_out n 1 hn]
    obtain ⟨A, c, hc, hf, hlc, hC⟩ := hI.open_
    clear hI hB hC
    by_cases h0 : n < 0
    · clear hn
      go_enter Try.func24, Try.ntmps24
      go_wp2
      go_ret
      exact ⟨rfl, HI.out, HB.out, KeepE.refl _⟩
    · have h1 : (l.length : Int) ≤ n := by omega
      clear hn
      go_enter Try.func24, Try.ntmps24
      go_wp2
      go_ret
      exact ⟨rfl, HI.out, HB.out, KeepE.refl _⟩
theorem ready_mem (i : Nat) (hi : i < l.length) (h : isReady (rd_T54 l (i : Int)) = true) : tReady l ≠ [] := by
  intro h0
  have hm : (i : Int) ∈ tReady l := (mem_tOf isReady l i).2 ⟨by omega, by omega, h⟩
  rw [h0] at hm
  cases hm
theorem any_take (i : Nat) (hi : i < l.length) : (l.take (i + 1)).any isWaits = ((l.take i).any isWaits || isWaits (rd_T54 l (i : Int))) := by
  have e : rd_T54 l (i : Int) = l[i] := by simp [rd_T54, List.getD_eq_getElem?_getD, List.getElem?_eq_getElem hi]
  rw [e, List.take_add_one, List.getElem?_eq_getElem hi, List.any_append]
  simp only [Option.toList, List.any_cons, List.any_nil, Bool.or_false]
set_option maxHeartbeats 2000000 in
theorem r_Status (hI : IsR ok w0 w g l) : Calls Try.prog 21 #[.pointer (some ⟨g, 0, none⟩)] w fun e w' => e = .returned (.int .i64 (statusR l)) ∧ Below w.heap.size w w' := by
  have HG := Aside0.mk hI.2.1
  have hl8 := hI.2.1.1
  obtain ⟨A, c, hcell, hf, hlc, hC⟩ := hI.open_
  have hu36 := Try.underlying36
  have hu38 := Try.underlying38
  have hu59 := Try.underlying59
  have HC := Aside0.mk hC
  clear hC hI hf
  go_enter Try.func21, Try.ntmps21
  go_wp2
  go_loopg [3, 4] l.length (fun kq v3 v4 w' => ∃ (i : Nat) (b : Bool), v3 = .bool b ∧ v4 = .int .i64 (i : Int) ∧ Aside0 (i + kq = l.length) ∧ Aside0 (ofTo isReady l i = []) ∧ Aside0 (b = (l.take i).any isWaits) ∧ w' = w)
  case atStart => exact ⟨0, false, rfl, rfl, ⟨by omega⟩, ⟨rfl⟩, ⟨rfl⟩, rfl⟩
  case round =>
    obtain ⟨i, b, rfl, rfl, HK, HE, HW, rfl⟩ := hrel
    cases gk with
    | zero =>
      have hd : decide (i < l.length) = false := decide_eq_false (by have := HK.out; omega)
      have hi : i = l.length := by have := HK.out; omega
      have hs : statusR l = if b = true then 2 else 1 := by
        have h1 : tReady l = [] := by have := HE.out; rw [hi] at this; exact this
        have h2 := HW.out
        rw [hi, List.take_length] at h2
        unfold statusR
        rw [if_pos h1, ← h2]
      have HS := Aside0.mk hs
      clear hi hs
      cases b
      all_goals go_wp2
      all_goals go_ret
      all_goals exact ⟨by rw [HS.out]; rfl, Below.refl _ _⟩
    | succ k1 =>
      have hi : i < l.length := by have := HK.out; omega
      have hd : decide (i < l.length) = true := decide_eq_true (by omega)
      have p1 : (0 : Int) ≤ (i : Int) := by omega
      have q1 : (i : Int) < (l.length : Int) := by omega
      obtain ⟨ad, A1, c1, e, hx0, hx1, hx2, hlc1, hC1⟩ := at_R HC.out (i : Int) p1 q1
      cases e
      rw [Int.toNat_natCast] at hx0 hx1
      clear hC1 hlc1 hx2
      have HS := Aside0.mk (ofTo_succ isReady l i)
      have HA := Aside0.mk (any_take i hi)
      have HR := Aside0.mk (ready_mem i hi)
      replace p1 := eq_true p1
      replace q1 := eq_true q1
      have hgd : l.getD i z54 = rd_T54 l (i : Int) := by unfold rd_T54; rw [Int.toNat_natCast]
      have hkind := (HG.out.get (i : Int)).1
      rw [hgd] at HS
      clear hgd
      generalize hx : rd_T54 l (i : Int) = x at *
      rcases hkind with hk | hk | hk
      · rw [hk] at hx0 hx1
        have hs : statusR l = 0 := by
          unfold statusR
          rw [if_neg (HR.out (by unfold isReady; rw [hk]; rfl))]
        have HS2 := Aside0.mk hs
        replace hx0 : wr.cell? (ad.add (i * 3)) = some (.bool false) := hx0
        replace hx1 : wr.cell? ⟨(ad.add (i * 3)).block, (ad.add (i * 3)).off + 1, none⟩ = some (.bool false) := hx1
        clear hk hs
        go_wp2
        go_ret
        exact ⟨by rw [HS2.out]; rfl, Below.refl _ _⟩
      · rw [hk] at hx0 hx1
        have HE2 : Aside0 (ofTo isReady l (i + 1) = []) := ⟨by rw [HS.out, HE.out, if_neg (show ¬ isReady x = true by unfold isReady; rw [hk]; decide)]; rfl⟩
        have HW2 : Aside0 (true = (l.take (i + 1)).any isWaits) := ⟨by rw [HA.out, show isWaits x = true by unfold isWaits; rw [hk]; rfl]; simp⟩
        replace hx0 : wr.cell? (ad.add (i * 3)) = some (.bool false) := hx0
        replace hx1 : wr.cell? ⟨(ad.add (i * 3)).block, (ad.add (i * 3)).off + 1, none⟩ = some (.bool true) := hx1
        clear hk
        cases b
        all_goals go_wp2
        all_goals go_roundg k1
        all_goals first | omega | exact ⟨i + 1, true, rfl, by simp, ⟨by have := HK.out; omega⟩, HE2, HW2, rfl⟩
      · rw [hk] at hx0 hx1
        have HE2 : Aside0 (ofTo isReady l (i + 1) = []) := ⟨by rw [HS.out, HE.out, if_neg (show ¬ isReady x = true by unfold isReady; rw [hk]; decide)]; rfl⟩
        have HW2 : Aside0 (b = (l.take (i + 1)).any isWaits) := ⟨by rw [HA.out, show isWaits x = false by unfold isWaits; rw [hk]; rfl, ← HW.out]; simp⟩
        replace hx0 : wr.cell? (ad.add (i * 3)) = some (.bool true) := hx0
        replace hx1 : wr.cell? ⟨(ad.add (i * 3)).block, (ad.add (i * 3)).off + 1, none⟩ = some (.bool false) := hx1
        clear hk
        cases b
        all_goals go_wp2
        all_goals go_roundg k1
        all_goals first | omega | exact ⟨i + 1, _, rfl, by simp, ⟨by have := HK.out; omega⟩, HE2, HW2, rfl⟩
end
end Go.Proofs.Ytcndpclnjnbppaa.Q
