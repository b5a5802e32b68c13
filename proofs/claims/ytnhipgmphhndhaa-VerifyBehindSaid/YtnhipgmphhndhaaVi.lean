import Derived.Test.YtnhipgmphhndhaaVh
namespace Go.Proofs.Ytnhipgmphhndhaa.Q
open Go.RowKit Go.Proofs.YtnhipgmphhndhaaW.PrintWords Go.Proofs.YtnhipgmphhndhaaW.PrintLast Go.Proofs.YtnhipgmphhndhaaW.PrintMore
set_option linter.unusedVariables false
set_option linter.unusedSectionVars false
set_option linter.unusedSimpArgs false
set_option maxRecDepth 100000
theorem walk_good {N : Nx} {f : S32} {W w1 : World} {u : Value} {b : Bool} (h : WalkOut N f W w1 u b) : (b = true ↔ Good N f.f3.length f.f2) := by
  rcases h with ⟨rfl, rfl, h⟩ | ⟨rfl, hs, h1, _, h2, _⟩
  · simp [h]
  · simp [h2]
set_option maxHeartbeats 4000000 in
theorem verify_Code.calls (A0 : Option Addr) (c0 : Nat) (fs : List S32) (A1 : Option Addr) (c1 : Nat) (xs : List Int) (A2 : Option Addr) (c2 : Nat) (ts : List ByteArray) (a : Int) (r : Int) (w : World) (hr0 : Kd.C k32 w A0 fs.length fs) (hc0 : fs.length ≤ c0) (hr1 : Kd.C (Kd.int .i64) w A1 xs.length xs) (hc1 : xs.length ≤ c1) (hr2 : Kd.C Kd.string w A2 ts.length ts) (hc2 : ts.length ≤ c2) (h : verify_Code.f fs xs ts a = some r) :
    Calls Try.prog 12 #[.agg #[.slice A0 fs.length c0, .slice A1 xs.length c1, .slice A2 ts.length c2, .int .i64 a]] w fun e w' => e = .returned (.int .i64 r) ∧ Below w.heap.size w w' := by
  have hu26 := Try.underlying26
  have hu32 := Try.underlying32
  have hu45 := Try.underlying45
  have hu22 := Try.underlying22
  unfold verify_Code.f at h
  by_cases hsz : Sized fs
  · rw [if_pos hsz] at h
    obtain rfl := Option.some.inj h
    clear h
    obtain ⟨km, hkm⟩ := (may_ev fs xs ts a hsz.1 hsz.2).rounds
    have HMAY := Aside0.mk (fun W (hb : Below w.heap.size w W) => code_May.calls km A0 c0 fs A1 c1 xs A2 c2 ts a (mayP fs xs ts a) W (Kd.C_below hr0 hb) hc0 (Kd.C_below hr1 hb) hc1 (Kd.C_below hr2 hb) hc2 hkm)
    have HC0 := Aside0.mk hr0
    have HL0 := Aside0.mk hc0
    have HSZ := Aside0.mk hsz
    clear hkm hr0 hc0 hr1 hr2 hsz
    by_cases hm : mayP fs xs ts a = true
    · rw [hm] at HMAY
      have HM := Aside0.mk hm
      have HEg := Aside0.mk (show (∀ n : Nat, n < fs.length → GoodAt fs xs ts a (n : Int)) → codeP fs xs ts a = 0 from fun h => by unfold codeP; rw [if_pos hm, if_pos h])
      have HEb := Aside0.mk (show ¬ (∀ n : Nat, n < fs.length → GoodAt fs xs ts a (n : Int)) → codeP fs xs ts a = 30 from fun h => by unfold codeP; rw [if_pos hm, if_neg h])
      clear hm
      go_enter Try.func12, Try.ntmps12
      go_wp2_with (first
        | (go_at_call 16; (with_reducible refine (HMAY.out _ (below_alloc (Below.refl _ _) _)).mono ?_); rintro e w1 ⟨rfl, hb⟩; have HB1 := Aside0.mk (below_step (below_alloc (Below.refl _ _) _) hb); have BC1 := Aside0.mk (blk_below (blk_new w _) hb); have r0 := (blk_cell BC1.out 0).trans rfl; clear hb))
      clear r0
      go_loopg [14] fs.length (fun kq v14 wr => ∃ (i : Nat), v14 = .int .i64 (i : Int) ∧ Aside0 (i + kq = fs.length) ∧ Aside0 (Below w1.heap.size w1 wr) ∧ Aside0 (∀ j : Nat, j < i → GoodAt fs xs ts a (j : Int)))
      case atStart => exact ⟨0, rfl, ⟨by omega⟩, ⟨Below.refl _ _⟩, ⟨fun j hj => absurd hj (by omega)⟩⟩
      case round =>
        obtain ⟨i, rfl, HK, HBr, HGA⟩ := hrel
        have HBw := Aside0.mk (below_step HB1.out HBr.out)
        have BCr := Aside0.mk (blk_below BC1.out HBr.out)
        by_cases hi : i < fs.length
        · have hd : decide (i < fs.length) = true := decide_eq_true hi
          have hof := may_body HM.out (n := (i : Int)) (by omega) (by omega)
          have HOF := Aside0.mk hof
          obtain ⟨ad, A3, c3, e, hx0, hx1, hx2, hx3, hl3, hC3⟩ := at_T32 HC0.out (i : Int) (by omega) (by omega)
          cases e
          rw [Int.toNat_natCast] at hx0 hx1 hx2 hx3
          replace hx0 := (HBw.out.cell (World.block_lt_of_cell? w _ hx0)).trans hx0
          replace hx1 := (HBw.out.cell (World.block_lt_of_cell? w _ hx1)).trans hx1
          replace hx2 := (HBw.out.cell (World.block_lt_of_cell? w _ hx2)).trans hx2
          replace hx3 := (HBw.out.cell (World.block_lt_of_cell? w _ hx3)).trans hx3
          have HC3 := Aside0.mk hC3
          have HL3 := Aside0.mk hl3
          have y0 : ∀ o : Obj, (wr.alloc o).cell? ⟨w.heap.size, 0, none⟩ = some (.slice (some ad) fs.length c0) := fun o => (blk_cell (blk_alloc BCr.out o) 0).trans rfl
          have y1 : ∀ o : Obj, (wr.alloc o).cell? ⟨w.heap.size, 1, none⟩ = some (.slice A1 xs.length c1) := fun o => (blk_cell (blk_alloc BCr.out o) 1).trans rfl
          have y2 : ∀ o : Obj, (wr.alloc o).cell? ⟨w.heap.size, 2, none⟩ = some (.slice A2 ts.length c2) := fun o => (blk_cell (blk_alloc BCr.out o) 2).trans rfl
          have y3 : ∀ o : Obj, (wr.alloc o).cell? ⟨w.heap.size, 3, none⟩ = some (.int .i64 a) := fun o => (blk_cell (blk_alloc BCr.out o) 3).trans rfl
          have p1 : (0 ≤ (i : Int)) = True := eq_true (by omega)
          have p2 : ((i : Int) < (fs.length : Int)) = True := eq_true (by omega)
          have hwi : IntKind.i64.wrap ((i : Int) + 1) = ((i + 1 : Nat) : Int) := by rw [i64_w]; exact wn _ (i + 1) (by omega) (by have := HSZ.out.1; omega)
          have HI := Aside0.mk hi
          clear hi hC3 hl3 hof
          go_wp2_with fail
          refine (v_walk (w0 := w) (fs := fs) (xs := xs) (ts := ts) (lets := a) (n := (i : Int)) (f := rd_T32 fs (i : Int)) (IsW.of (below_alloc (below_alloc HBw.out _) _) (blk_new2 _ _ _) HL0.out HC0.out HL3.out HC3.out) HOF.out).mono ?_
          rintro e w2 ⟨hb, u, b, rfl, ho⟩
          have hg := walk_good ho
          have HG := Aside0.mk hg
          have HB2 := Aside0.mk (below_step (below_alloc (below_alloc HBw.out _) _) hb)
          have HB3 := Aside0.mk (below_step (below_alloc (below_alloc HBr.out _) _) hb)
          clear hb ho hg y0 y1 y2 y3 hx0 hx1 hx2 hx3
          cases b with
          | false =>
            go_wp2
            go_ret
            exact ⟨by rw [HEb.out (fun h => absurd (HG.out.2 (h i HI.out)) (by simp))]; rfl, HB2.out⟩
          | true =>
            go_wp2
            go_roundg (fs.length - (i + 1))
            case measure => have := HK.out; have := HI.out; omega
            case rel =>
              refine ⟨i + 1, by simp, ⟨by have := HI.out; omega⟩, HB3, ⟨fun j hj => ?_⟩⟩
              by_cases he : j = i
              · subst he
                exact HG.out.1 (by simp)
              · exact HGA.out j (by omega)
        · have hd : decide (i < fs.length) = false := decide_eq_false hi
          have HI := Aside0.mk hi
          clear hi
          go_wp2
          go_ret
          exact ⟨by rw [HEg.out (fun n hn => HGA.out n (by have := HI.out; omega))]; rfl, HBw.out⟩
    · replace hm : mayP fs xs ts a = false := by simpa using hm
      rw [hm] at HMAY
      have HE := Aside0.mk (show codeP fs xs ts a = 1 from by unfold codeP; rw [if_neg (by rw [hm]; decide)])
      clear hm
      go_enter Try.func12, Try.ntmps12
      go_wp2_with (first
        | (go_at_call 16; (with_reducible refine (HMAY.out _ (below_alloc (Below.refl _ _) _)).mono ?_); rintro e w1 ⟨rfl, hb⟩; have HB1 := Aside0.mk (below_step (below_alloc (Below.refl _ _) _) hb); clear hb))
      go_ret
      exact ⟨by rw [HE.out]; rfl, HB1.out⟩
  · rw [if_neg hsz] at h
    exact absurd h (by simp)
end Go.Proofs.Ytnhipgmphhndhaa.Q
