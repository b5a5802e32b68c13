import Derived.Test.YtcndpclnjnbppaaH14
import Derived.Outline
import Derived.Deep.DrawnRows
namespace Go.Proofs.Ytcndpclnjnbppaa.Q
open Go.RowKit Go.Proofs.YtcndpclnjnbppaaW.PrintWords Go.Proofs.YtcndpclnjnbppaaW.PrintLast Go.Proofs.YtcndpclnjnbppaaW.PrintMore
attribute [local go_sem ↓] Go.wp_at_zero Go.wp_at_succ
set_option linter.unusedVariables false
set_option linter.unusedSimpArgs false
theorem int_wf {a : Int} (h : (Lit.int .i64 a).wf = true) : -9223372036854775808 ≤ a ∧ a ≤ 9223372036854775807 := by
  simp [Lit.wf, IntKind.min, IntKind.max, IntKind.signed, IntKind.bits] at h
  omega
/-! ### a deed -/
structure S41 where
  f0 : Int
  f1 : Int
  f2 : List Int
def z41 : S41 := ⟨0, 0, []⟩
def k41 : Kd S41 := Kd.iso (Kd.pair (Kd.int .i64) (Kd.pair (Kd.int .i64) (Kd.slice 3 (Kd.int .i64)))) (fun x : S41 => (x.f0, x.f1, x.f2))
theorem k41_open {w : World} {x : S41} {cs : List Value} (h : k41.K w x cs) : ∃ A2 c2, cs = [.int .i64 x.f0, .int .i64 x.f1, .slice A2 x.f2.length c2] ∧ x.f2.length ≤ c2 ∧ (Kd.int .i64).C w A2 x.f2.length x.f2 := by
  obtain ⟨_, _, rfl, rfl, ⟨_, _, rfl, rfl, ⟨A2, c2, rfl, l2, g2⟩⟩⟩ := h
  exact ⟨A2, c2, rfl, l2, g2⟩
def rd_T41 (xs : List S41) (i : Nat) : S41 := xs.getD i z41
theorem at_T41 {w : World} {A : Option Addr} {n : Nat} {xs : List S41} (h : Kd.C k41 w A n xs) (i : Nat) (h1 : i < n) : ∃ ad A2 c2, A = some ad ∧ w.cell? (ad.add (i * 3)) = some (.int .i64 (rd_T41 xs i).f0) ∧ w.cell? ⟨(ad.add (i * 3)).block, (ad.add (i * 3)).off + 1, none⟩ = some (.int .i64 (rd_T41 xs i).f1) ∧ w.cell? ⟨(ad.add (i * 3)).block, (ad.add (i * 3)).off + 2, none⟩ = some (.slice A2 (rd_T41 xs i).f2.length c2) ∧ (rd_T41 xs i).f2.length ≤ c2 ∧ (Kd.int .i64).C w A2 (rd_T41 xs i).f2.length (rd_T41 xs i).f2 := by
  obtain ⟨ad, c, e, _, hK, hc0⟩ := Kd.C_get h z41 (i : Int) (by omega) (by omega)
  rw [Int.toNat_natCast] at hK hc0
  have hc : ∀ j u, c[j]? = some u → w.cell? (ad.add (i * 3 + j)) = some u := hc0
  obtain ⟨A2, c2, rfl, l2, g2⟩ := k41_open hK
  exact ⟨ad, A2, c2, e, hc 0 _ rfl, by rw [← add_field _ _ 1 (by omega)]; exact hc 1 _ rfl, by rw [← add_field _ _ 2 (by omega)]; exact hc 2 _ rfl, l2, g2⟩
theorem r_new {w0 W : World} (hB : Below w0.heap.size w0 W) : IsR (fun _ => True) w0 (W.alloc (.cells #[.slice none 0 0] 38)) W.heap.size [] := ⟨hB.size, Good.nil, _, blk_new W _, Kd.R_nil _ _ _ _ _⟩
theorem j_new {w0 W : World} {g : Nat} (hI : IsT (fun _ => True) w0 W g []) (hB : Below w0.heap.size w0 W) : J w0 (W.alloc (.cells #[.slice none 0 0] 38)) g W.heap.size [] := ⟨hI.below (below_alloc (Below.refl _ _) _), r_new hB, below_alloc hB _⟩
/-- A deed of both, as a law calls it. -/
theorem does_at {w0 w : World} {gt gr : Nat} {s : List S54} (x : S41) (A : Option Addr) (c : Nat) (hJ : J w0 w gt gr s) (hc : x.f2.length ≤ c) (hr : Kd.C (Kd.int .i64) w0 A x.f2.length x.f2) :
    Calls Try.prog 15 #[.pointer (some ⟨gt, 0, none⟩), .pointer (some ⟨gr, 0, none⟩), .agg #[.int .i64 x.f0, .int .i64 x.f1, .slice A x.f2.length c]] w fun e w' => e = .returned (.bool true) ∧ J w0 w' gt gr (doStep s x.f0 x.f1 x.f2) :=
  does_calls x.f0 x.f1 A c x.f2 hJ hc (Kd.C_below hr hJ.b)
section
variable {w0 w : World} {gt gr : Nat} {s : List S54}
theorem J.rows (h : J w0 w gt gr s) : ∃ A c, w.cell? ⟨gr, 0, none⟩ = some (.slice A s.length c) ∧ w.frozen? ⟨gr, 0, none⟩ = false := by
  obtain ⟨A, c, h1, h2, _⟩ := h.r.open_
  exact ⟨A, c, h1, h2⟩
theorem ready_len (h : J w0 w gt gr s) : (tReady s).length ≤ 8 := Nat.le_trans (ofTo_len _ _ _) h.t.2.1.1
set_option maxHeartbeats 8000000 in
set_option maxRecDepth 100000 in
theorem selvagelaw19_SchedPlays.calls (A : Option Addr) (c : Nat) (l : List S41) (k : Int) (w : World) (hC : k41.C w A l.length l) (hc : l.length ≤ c) (k1 : -9223372036854775808 ≤ k) (k2 : k ≤ 9223372036854775807) :
    Calls Try.prog 5 #[.slice A l.length c, .int .i64 k] w fun e w' => e = .returned (.bool true) ∧ Below w.heap.size w w' := by
  have HC := Aside0.mk hC
  have hu34 := Try.underlying34
  have hu36 := Try.underlying36
  have hu38 := Try.underlying38
  have hu41 := Try.underlying41
  clear hC
  go_enter Try.func5, Try.ntmps5
  go_wp2_with (go_at_call 8; (with_reducible refine (v_New w).mono ?_); rintro e w1 ⟨g, rfl, hI, hB⟩; have HJ1 := Aside0.mk (j_new hI hB); clear hI hB)
  go_loopg [7] 40 (fun kq v7 w' => ∃ (i : Nat) (s : List S54), v7 = .int .i64 (i : Int) ∧ Aside0 (i + kq = 40) ∧ Aside0 (J w w' g w1.heap.size s))
  case atStart => exact ⟨0, [], rfl, ⟨rfl⟩, HJ1⟩
  case round =>
    obtain ⟨i, s, rfl, HK, HJ⟩ := hrel
    by_cases hi : i < l.length
    · have hd : decide (i < l.length) = true := decide_eq_true hi
      cases gk with
      | zero =>
        have hi40 : ¬ i < 40 := by have := HK.out; omega
        have hd2 : decide (i < 40) = false := decide_eq_false hi40
        go_wp2_with (go_at_call 14; (with_reducible refine (lives_calls _).mono ?_); rintro e w2 ⟨rfl, hB⟩; have HB2 := Aside0.mk (below_then HJ.out.b HJ.out.b.size hB); clear hB)
        go_ret
        exact ⟨rfl, HB2.out⟩
      | succ k1' =>
        have hi40 : i < 40 := by have := HK.out; omega
        have hd2 : decide (i < 40) = true := decide_eq_true hi40
        obtain ⟨ad, A2, c2, e, hx0, hx1, hx2, hlc, hCx⟩ := at_T41 HC.out i hi
        cases e
        replace hx0 := (HJ.out.b.cell (World.block_lt_of_cell? w _ hx0)).trans hx0
        replace hx1 := (HJ.out.b.cell (World.block_lt_of_cell? w _ hx1)).trans hx1
        replace hx2 := (HJ.out.b.cell (World.block_lt_of_cell? w _ hx2)).trans hx2
        have HCX := Aside0.mk hCx
        have p1 : (0 : Int) ≤ (i : Int) := by omega
        have q1 : (i : Int) < (l.length : Int) := by omega
        replace p1 := eq_true p1
        replace q1 := eq_true q1
        have HD := Aside0.mk (does_at (rd_T41 l i) A2 c2 HJ.out hlc HCX.out)
        generalize rd_T41 l i = x at *
        generalize doStep s x.f0 x.f1 x.f2 = s2 at *
        clear hCx
        go_wp2_with (first
          | (go_at_call 15; (with_reducible refine HD.out.mono ?_); rintro e w2 ⟨rfl, hJ⟩; have HJ2 := Aside0.mk hJ; have HL2 := Aside0.mk (ready_len hJ); clear hJ)
          | (go_at_call 13; (with_reducible refine (t_Ready HJ2.out.t).mono ?_); rintro e w3 ⟨v, rfl, hR, hB⟩; obtain ⟨A3, c3, rfl, hc3, hC3⟩ := Kd.R_reads hR; have HC3 := Aside0.mk hC3; have HJ3 := Aside0.mk (HJ2.out.below hB); clear hR hC3 hB)
          | (go_at_call 18; (with_reducible refine (r_Ready HJ3.out.r).mono ?_); rintro e w4 ⟨v, rfl, hR, hB⟩; obtain ⟨A4, c4, rfl, hc4, hC4⟩ := Kd.R_reads hR; have HC4 := Aside0.mk hC4; have HC34 := Aside0.mk (Kd.C_below HC3.out hB); have HJ4 := Aside0.mk (HJ3.out.below hB); clear hR hC4 hB)
          | (go_at_call 17; (with_reducible refine (same_calls A3 A4 c3 c4 (tReady s2) _ (by have := HL2.out; omega) hc3 hc4 HC34.out HC4.out).mono ?_); rintro e w5 ⟨rfl, hd5⟩; have HJ5 := Aside0.mk (HJ4.out.below hd5.below); clear hd5)
          | (go_at_call 16; (with_reducible refine (t_Pick k k1 k2 HJ5.out.t).mono ?_); rintro e w6 ⟨rfl, hB⟩; have HJ6 := Aside0.mk (HJ5.out.below hB); clear hB)
          | (go_at_call 19; (with_reducible refine (r_Pick k k1 k2 HJ6.out.r).mono ?_); rintro e w7 ⟨rfl, hB⟩; have HJ7 := Aside0.mk (HJ6.out.below hB); clear hB))
        obtain ⟨Ar, cr, hr0, hr1⟩ := HJ7.out.rows
        go_region_held3 (fun w' => w'.cell? ⟨w1.heap.size, 0, none⟩ = some (.slice Ar s2.length cr)) (go_keep) (first
          | (go_at_call 20; (with_reducible refine (t_Status (J.drew HJ7.out).t).mono ?_); rintro e w8 ⟨rfl, hB⟩; have HJ8 := Aside0.mk ((J.drew HJ7.out).below hB); have q8 := pw_cell_below (below_undrew hB) hr0; clear hB)
          | (go_at_call 21; (with_reducible refine (r_Status HJ8.out.r).mono ?_); rintro e w9 ⟨rfl, hB⟩; have HJ9 := Aside0.mk (HJ8.out.below hB); have q9 := pw_cell_below hB q8; clear hB)
          | (go_at_call 22; (with_reducible refine (t_Len HJ9.out.t).mono ?_); rintro e w10 ⟨rfl, rfl⟩))
        all_goals go_wp2
        all_goals go_roundg k1'
        all_goals first | omega | exact ⟨i + 1, s2, by simp, ⟨by have := HK.out; omega⟩, HJ9⟩
    · have hd : decide (i < l.length) = false := decide_eq_false hi
      go_wp2_with (go_at_call 14; (with_reducible refine (lives_calls _).mono ?_); rintro e w2 ⟨rfl, hB⟩; have HB2 := Aside0.mk (below_then HJ.out.b HJ.out.b.size hB); clear hB)
      go_ret
      exact ⟨rfl, HB2.out⟩
end
end Go.Proofs.Ytcndpclnjnbppaa.Q
