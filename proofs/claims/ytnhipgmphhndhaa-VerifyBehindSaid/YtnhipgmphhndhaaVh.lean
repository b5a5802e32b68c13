import Derived.Test.YtnhipgmphhndhaaVg
import Derived.Test.YtnhipgmphhndhaaM2
namespace Go.Proofs.Ytnhipgmphhndhaa.Q
open Go.RowKit Go.Proofs.YtnhipgmphhndhaaW.PrintWords Go.Proofs.YtnhipgmphhndhaaW.PrintLast Go.Proofs.YtnhipgmphhndhaaW.PrintMore
set_option linter.unusedVariables false
set_option linter.unusedSectionVars false
set_option linter.unusedSimpArgs false
set_option maxRecDepth 100000
/-! ### what a code answers -/
/-- The walk's law of function n of a code. -/
abbrev nxOf (fs : List S32) (xs : List Int) (ts : List ByteArray) (a n : Int) : Nx := nx fs xs.length ts.length a n (rd_T32 fs n)
def GoodAt (fs : List S32) (xs : List Int) (ts : List ByteArray) (a n : Int) : Prop := Good (nxOf fs xs ts a n) (rd_T32 fs n).f3.length (rd_T32 fs n).f2
open Classical in
noncomputable def depthsP (fs : List S32) (xs : List Int) (ts : List ByteArray) (a n : Int) : List Int :=
  if mayP fs xs ts a = true ∧ 0 ≤ n ∧ n < (fs.length : Int) then deps (nxOf fs xs ts a n) (rd_T32 fs n).f3.length (rd_T32 fs n).f2 else []
open Classical in
noncomputable def codeP (fs : List S32) (xs : List Int) (ts : List ByteArray) (a : Int) : Int :=
  if mayP fs xs ts a = true then (if ∀ n : Nat, n < fs.length → GoodAt fs xs ts a (n : Int) then 0 else 30) else 1
def Sized (fs : List S32) : Prop := fs.length ≤ 1000000 ∧ ∀ f ∈ fs, f.f3.length ≤ 1000000
open Classical in
noncomputable def verify_Depths.f (fs : List S32) (xs : List Int) (ts : List ByteArray) (a n : Int) : Option (List Int) := if Sized fs then some (depthsP fs xs ts a n) else none
open Classical in
noncomputable def verify_Code.f (fs : List S32) (xs : List Int) (ts : List ByteArray) (a : Int) : Option Int := if Sized fs then some (codeP fs xs ts a) else none
theorem instr_ok {i : S37} (h : instrOk i = true) : OkIns i := by
  unfold instrOk at h
  have h := of_decide_eq_true h
  have hu : ¬ (i.f0 < 1 ∨ 33 < i.f0) := by
    intro hh
    have h1 := h.1
    unfold usesP at h1
    rw [if_pos hh] at h1
    exact absurd h1 (by decide)
  exact ⟨by omega, by omega, h.2.1, h.2.2.1, h.2.2.2.1, h.2.2.2.2.1⟩
theorem body_ok {f : S32} (h : bodyOk f = true) : OkBody f := by
  unfold bodyOk at h
  rw [Bool.and_eq_true] at h
  obtain ⟨h1, h2⟩ := h
  obtain ⟨a1, a2, a3, a4, a5, a6, a7, a8⟩ := of_decide_eq_true h1
  exact ⟨a1, a2, a3, a4, a5, a6, a7, a8, fun i hi => instr_ok (List.all_eq_true.1 h2 i hi)⟩
theorem rd_32_mem {m : List S32} (i : Int) (h0 : 0 ≤ i) (hi : i < (m.length : Int)) : rd_T32 m i ∈ m := by
  unfold rd_T32
  rw [List.getD_eq_getElem?_getD, List.getElem?_eq_getElem (by omega : i.toNat < m.length)]
  exact List.getElem_mem _
theorem may_body {fs : List S32} {xs : List Int} {ts : List ByteArray} {a : Int} (h : mayP fs xs ts a = true) {n : Int} (h0 : 0 ≤ n) (h1 : n < (fs.length : Int)) : OkBody (rd_T32 fs n) := by
  unfold mayP at h
  rw [Bool.and_eq_true, Bool.and_eq_true] at h
  exact body_ok (List.all_eq_true.1 h.2.1 _ (rd_32_mem n h0 h1))
theorem ty_kP {t : Nat} (h1 : 49 ≠ t) (h2 : 52 ≠ t) (h3 : 89 ≠ t) : ∀ q ∈ 49 :: kP.E, q ≠ t := by
  intro q hq
  rcases List.mem_cons.1 hq with rfl | hq
  · exact h1
  · rcases List.mem_cons.1 hq with rfl | hq
    · exact h2
    · rw [List.mem_singleton.1 hq]; exact h3
theorem IsW.of {w0 W : World} {g : Nat} {fs : List S32} {xs : List Int} {ts : List ByteArray} {lets n : Int} {f : S32} {Af Ax At Ac : Option Addr} {cf cx ct cc : Nat} (hB : Below w0.heap.size w0 W)
    (hg : W.heap[g]? = some (.cells #[.slice Af fs.length cf, .slice Ax xs.length cx, .slice At ts.length ct, .int .i64 lets, .int .i64 n, .int .i64 f.f0, .int .i64 f.f1, .int .i64 f.f2, .slice Ac f.f3.length cc] 45 (0, 0)))
    (h1 : fs.length ≤ cf) (h2 : k32.C w0 Af fs.length fs) (h3 : f.f3.length ≤ cc) (h4 : k37.C w0 Ac f.f3.length f.f3) : IsW w0 W g fs xs ts lets n f := ⟨hB, Af, cf, Ax, cx, At, ct, Ac, cc, hg, h1, h2, h3, h4⟩
theorem walk_out {N : Nx} {f : S32} {W w1 : World} {u : Value} {b : Bool} (h : WalkOut N f W w1 u b) : ∃ hs, Kd.R kP 49 w1 W.heap.size (fun _ => True) u hs ∧ deps N f.f3.length f.f2 = hs.map dOf ∧ hs.length ≤ f.f3.length := by
  rcases h with ⟨_, rfl, h⟩ | ⟨_, hs, h1, h3, _, h2⟩
  · exact ⟨[], Kd.R_nil _ _ _ _ _, deps_bad h, Nat.zero_le _⟩
  · exact ⟨hs, h1, h2, Nat.le_of_eq h3⟩
theorem had_keep {W W1 : World} {b : Nat} {u v : Value} {hs : List (Option St)} {zs : List Int} (h : Kd.R kP 49 W b (fun _ => True) u hs) (hz : Kd.R (Kd.int .i64) 3 W b (fun _ => True) v zs) (hg : W.grownBy W1 v.ownBlock) : Kd.R kP 49 W1 b (fun _ => True) u hs := by
  cases hb : v.ownBlock with
  | none =>
    rw [hb] at hg
    exact Kd.R_grown h hg (fun _ _ he => by cases he)
  | some k =>
    rw [hb] at hg
    obtain ⟨cs, hcs⟩ := Kd.R_typed hz k hb
    exact R_other h hg hcs (ty_kP (by decide) (by decide) (by decide))
set_option maxHeartbeats 4000000 in
theorem verify_Depths.calls (A0 : Option Addr) (c0 : Nat) (fs : List S32) (A1 : Option Addr) (c1 : Nat) (xs : List Int) (A2 : Option Addr) (c2 : Nat) (ts : List ByteArray) (a n : Int) (r : List Int) (w : World) (hr0 : Kd.C k32 w A0 fs.length fs) (hc0 : fs.length ≤ c0) (hr1 : Kd.C (Kd.int .i64) w A1 xs.length xs) (hc1 : xs.length ≤ c1) (hr2 : Kd.C Kd.string w A2 ts.length ts) (hc2 : ts.length ≤ c2) (h : verify_Depths.f fs xs ts a n = some r) :
    Calls Try.prog 9 #[.agg #[.slice A0 fs.length c0, .slice A1 xs.length c1, .slice A2 ts.length c2, .int .i64 a], .int .i64 n] w fun e w' => ∃ v0_ : Value, e = .returned (v0_) ∧ Kd.R (Kd.int .i64) 3 w' w.heap.size (fun _ => True) v0_ r ∧ Below w.heap.size w w' := by
  have hu26 := Try.underlying26
  have hu32 := Try.underlying32
  have hu45 := Try.underlying45
  have hu22 := Try.underlying22
  have hu46 := Try.underlying46
  have hu52 := Try.underlying52
  unfold verify_Depths.f at h
  by_cases hsz : Sized fs
  · rw [if_pos hsz] at h
    obtain rfl := Option.some.inj h
    clear h
    obtain ⟨km, hkm⟩ := (may_ev fs xs ts a hsz.1 hsz.2).rounds
    have HMAY := Aside0.mk (fun W (hb : Below w.heap.size w W) => code_May.calls km A0 c0 fs A1 c1 xs A2 c2 ts a (mayP fs xs ts a) W (Kd.C_below hr0 hb) hc0 (Kd.C_below hr1 hb) hc1 (Kd.C_below hr2 hb) hc2 hkm)
    have HD := Aside0.mk (show mayP fs xs ts a = false → depthsP fs xs ts a n = [] from fun h => by unfold depthsP; rw [if_neg (fun hh => by rw [h] at hh; exact absurd hh.1 (by decide))])
    have HD2 := Aside0.mk (show ¬ (0 ≤ n ∧ n < (fs.length : Int)) → depthsP fs xs ts a n = [] from fun h => by unfold depthsP; rw [if_neg (fun hh => h hh.2)])
    have HC0 := Aside0.mk hr0
    have HL0 := Aside0.mk hc0
    clear hkm hr0 hc0 hr1 hr2 hsz
    by_cases hm : mayP fs xs ts a = true
    · rw [hm] at HMAY
      have HM := Aside0.mk hm
      clear hm HD
      by_cases h0 : 0 ≤ n
      · have d0 : decide (n < 0) = false := decide_eq_false (by omega)
        by_cases h1 : n < (fs.length : Int)
        · have d1 : decide (n ≥ (fs.length : Int)) = false := decide_eq_false (by omega)
          have d1' : decide ((fs.length : Int) ≤ n) = false := decide_eq_false (by omega)
          have hof := may_body HM.out h0 h1
          have HOF := Aside0.mk hof
          have HDP := Aside0.mk (show depthsP fs xs ts a n = deps (nxOf fs xs ts a n) (rd_T32 fs n).f3.length (rd_T32 fs n).f2 from by unfold depthsP; rw [if_pos ⟨HM.out, h0, h1⟩])
          obtain ⟨ad, A3, c3, e, hx0, hx1, hx2, hx3, hl3, hC3⟩ := at_T32 HC0.out n h0 h1
          cases e
          have HX0 := Aside0.mk hx0
          have HX1 := Aside0.mk hx1
          have HX2 := Aside0.mk hx2
          have HX3 := Aside0.mk hx3
          have HC3 := Aside0.mk hC3
          have HL3 := Aside0.mk hl3
          have p1 : (0 ≤ n) = True := eq_true h0
          have p2 : (n < (fs.length : Int)) = True := eq_true h1
          clear hx0 hx1 hx2 hx3 hC3 hl3 hof h0 h1
          go_enter Try.func9, Try.ntmps9
          go_wp2_with (first
            | (go_at_call 16; (with_reducible refine (HMAY.out _ (below_alloc (Below.refl _ _) _)).mono ?_); rintro e w1 ⟨rfl, hb⟩; have HB1 := Aside0.mk (below_step (below_alloc (Below.refl _ _) _) hb); have BC1 := Aside0.mk (blk_below (blk_new w _) hb); have r0 := (blk_cell BC1.out 0).trans rfl; have r1 := (blk_cell BC1.out 1).trans rfl; have r2 := (blk_cell BC1.out 2).trans rfl; have r3 := (blk_cell BC1.out 3).trans rfl; clear hb))
          have t0 := (HB1.out.cell (World.block_lt_of_cell? w _ HX0.out)).trans HX0.out
          have t1 := (HB1.out.cell (World.block_lt_of_cell? w _ HX1.out)).trans HX1.out
          have t2 := (HB1.out.cell (World.block_lt_of_cell? w _ HX2.out)).trans HX2.out
          have t3 := (HB1.out.cell (World.block_lt_of_cell? w _ HX3.out)).trans HX3.out
          go_region_held3 (fun w' => (w'.cell? ⟨w.heap.size, 0, none⟩ = some (.slice (some ad) fs.length c0) ∧ w'.cell? ⟨w.heap.size, 1, none⟩ = some (.slice A1 xs.length c1) ∧ w'.cell? ⟨w.heap.size, 2, none⟩ = some (.slice A2 ts.length c2) ∧ w'.cell? ⟨w.heap.size, 3, none⟩ = some (.int .i64 a)) ∧ w'.cell? (ad.add (n.toNat * 4)) = some (.int .i64 (rd_T32 fs n).f0) ∧ w'.cell? ⟨(ad.add (n.toNat * 4)).block, (ad.add (n.toNat * 4)).off + 1, none⟩ = some (.int .i64 (rd_T32 fs n).f1) ∧ w'.cell? ⟨(ad.add (n.toNat * 4)).block, (ad.add (n.toNat * 4)).off + 2, none⟩ = some (.int .i64 (rd_T32 fs n).f2) ∧ w'.cell? ⟨(ad.add (n.toNat * 4)).block, (ad.add (n.toNat * 4)).off + 3, none⟩ = some (.slice A3 (rd_T32 fs n).f3.length c3)) (go_keep) (fail)
          go_wp2_with (first
            | (go_at_call 17; (with_reducible refine (v_walk (w0 := w) (fs := fs) (xs := xs) (ts := ts) (lets := a) (n := n) (f := rd_T32 fs n) (IsW.of (below_drew1 (below_alloc HB1.out _)) (blk_drew (blk_new _ _)) HL0.out HC0.out HL3.out HC3.out) HOF.out).mono ?_); rintro e w2 ⟨hb, u, b, rfl, ho⟩; obtain ⟨hs, hh, hd, hsz⟩ := walk_out ho; have HSZ := Aside0.mk (Nat.le_trans hsz HOF.out.2.2.2.2.2.2.2.1); clear hsz; obtain ⟨Au, cu, rfl, hcu, hCu⟩ := Kd.R_reads hh; have HH := Aside0.mk (Kd.R_lower hh (below_drew1 (below_alloc HB1.out _)).size); have HDD := Aside0.mk hd; clear hh hd hcu hCu; have HO := Aside0.mk ho; have HB2 := Aside0.mk (below_step (below_drew1 (below_alloc HB1.out _)) hb); clear hb ho))
          go_loopg [8, 41] hs.length (fun kq v8 v41 wr => ∃ (i : Nat), v41 = .int .i64 (i : Int) ∧ Aside0 (i + kq = hs.length) ∧ Aside0 (Kd.R (Kd.int .i64) 3 wr w.heap.size (fun _ => True) v8 ((hs.take i).map dOf)) ∧ Aside0 (Below w.heap.size w wr) ∧ Aside0 (Kd.R kP 49 wr w.heap.size (fun _ => True) (.slice Au hs.length cu) hs))
          case atStart => exact ⟨0, rfl, ⟨by omega⟩, ⟨Kd.R_nil _ _ _ _ _⟩, ⟨HB2.out⟩, ⟨HH.out⟩⟩
          case round =>
            obtain ⟨i, rfl, HK, HR, HBw, HHw⟩ := hrel
            by_cases hi : i < hs.length
            · have hd : decide (i < hs.length) = true := decide_eq_true hi
              obtain ⟨gh, ch, he, hgh, _, csh, hcsh⟩ := row_form HHw.out (by omega)
              injection he with he1 _ he3
              subst he1 he3
              obtain ⟨pv, e0, e1, e2, _⟩ := had_elem HHw.out (i : Int) (by omega) (by omega)
              rw [Int.toNat_natCast] at e0 e2
              have q1 : (0 ≤ (i : Int)) = True := eq_true (by omega)
              have q2 : ((i : Int) < (hs.length : Int)) = True := eq_true (by omega)
              have hget : (hs.take (i + 1)).map dOf = (hs.take i).map dOf ++ [dOf (hs.getD i none)] := by
                rw [List.take_add_one, List.map_append, List.getElem?_eq_getElem hi, List.getD_eq_getElem?_getD, List.getElem?_eq_getElem hi]
                rfl
              have HGET := Aside0.mk hget
              have HLN := Aside0.mk (show ((hs.take i).map dOf).length ≤ hs.length from by simp; omega)
              have hwi : IntKind.i64.wrap ((i : Int) + 1) = ((i + 1 : Nat) : Int) := by rw [i64_w]; exact wn _ (i + 1) (by omega) (by have := HSZ.out; omega)
              have HI := Aside0.mk hi
              clear hi hget e1 hgh hcsh
              generalize hs.getD i none = o at HGET e2
              cases o with
              | none =>
                obtain rfl : pv = .pointer none := e2
                go_wp2_with (first | ((with_reducible refine gate_builtin (b := .append) (xs := #[.tmp 47, .tmp 48]) rfl ?_); at_builtin; refine Kd.R_append (Kd.int .i64) (w0 := w) w.heap.size rfl (.tmp 47) (.tmp 48) 23 3 (.int .i64 0) 8 rfl Try.underlying23 info3 rfl (by decide) (by omega) u8 ((hs.take i).map dOf) (-1 : Int) [.int .i64 (-1)] (fun _ => True) (fun _ => False) rfl rfl rfl (fun _ hk => hk.elim) (fun _ _ => trivial) HR.out HBw.out HBw.out.size (by have := HLN.out; have := HSZ.out; omega) ?_; intro v5 w6 ho hb hg _; have HR2 := Aside0.mk ho; have HB3 := Aside0.mk hb; have HH3 := Aside0.mk (had_keep HHw.out HR.out hg); clear ho hb hg))
                go_roundg (hs.length - (i + 1))
                case measure => have := HK.out; have := HI.out; omega
                case rel => exact ⟨i + 1, by simp, ⟨by have := HI.out; omega⟩, ⟨by rw [HGET.out]; exact HR2.out⟩, HB3, HH3⟩
              | some s =>
                obtain ⟨gs, v, rfl, hgs, hv⟩ := e2
                obtain ⟨Av, cv, rfl, hcv, hCv⟩ := Kd.R_reads hv
                have g0 := (blk_cell hgs 0).trans rfl
                clear hgs hv hcv hCv
                go_wp2_with (first | ((with_reducible refine gate_builtin (b := .append) (xs := #[.tmp 50, .tmp 55]) rfl ?_); at_builtin; refine Kd.R_append (Kd.int .i64) (w0 := w) w.heap.size rfl (.tmp 50) (.tmp 55) 23 3 (.int .i64 0) 8 rfl Try.underlying23 info3 rfl (by decide) (by omega) u8 ((hs.take i).map dOf) s.d [.int .i64 s.d] (fun _ => True) (fun _ => False) rfl rfl rfl (fun _ hk => hk.elim) (fun _ _ => trivial) HR.out HBw.out HBw.out.size (by have := HLN.out; have := HSZ.out; omega) ?_; intro v5 w6 ho hb hg _; have HR2 := Aside0.mk ho; have HB3 := Aside0.mk hb; have HH3 := Aside0.mk (had_keep HHw.out HR.out hg); clear ho hb hg))
                go_roundg (hs.length - (i + 1))
                case measure => have := HK.out; have := HI.out; omega
                case rel => exact ⟨i + 1, by simp, ⟨by have := HI.out; omega⟩, ⟨by rw [HGET.out]; exact HR2.out⟩, HB3, HH3⟩
            · have hd : decide (i < hs.length) = false := decide_eq_false hi
              have HI := Aside0.mk hi
              clear hi
              go_wp2
              go_ret
              refine ⟨_, rfl, ?_, HBw.out⟩
              rw [HDP.out, HDD.out]
              have h1 := HR.out
              rw [List.take_of_length_le (by have := HI.out; omega)] at h1
              exact h1
        · have d1 : decide (n ≥ (fs.length : Int)) = true := decide_eq_true (by omega)
          have d1' : decide ((fs.length : Int) ≤ n) = true := decide_eq_true (by omega)
          go_enter Try.func9, Try.ntmps9
          go_wp2_with (first
            | (go_at_call 16; (with_reducible refine (HMAY.out _ (below_alloc (Below.refl _ _) _)).mono ?_); rintro e w1 ⟨rfl, hb⟩; have HB1 := Aside0.mk (below_step (below_alloc (Below.refl _ _) _) hb); have BC1 := Aside0.mk (blk_below (blk_new w _) hb); have r0 := (blk_cell BC1.out 0).trans rfl; have r1 := (blk_cell BC1.out 1).trans rfl; have r2 := (blk_cell BC1.out 2).trans rfl; have r3 := (blk_cell BC1.out 3).trans rfl; clear hb))
          go_ret
          refine ⟨_, rfl, ?_, HB1.out⟩
          rw [HD2.out (by omega)]
          exact Kd.R_nil _ _ _ _ _
      · have d0 : decide (n < 0) = true := decide_eq_true (by omega)
        go_enter Try.func9, Try.ntmps9
        go_wp2_with (first
          | (go_at_call 16; (with_reducible refine (HMAY.out _ (below_alloc (Below.refl _ _) _)).mono ?_); rintro e w1 ⟨rfl, hb⟩; have HB1 := Aside0.mk (below_step (below_alloc (Below.refl _ _) _) hb); have BC1 := Aside0.mk (blk_below (blk_new w _) hb); have r0 := (blk_cell BC1.out 0).trans rfl; have r1 := (blk_cell BC1.out 1).trans rfl; have r2 := (blk_cell BC1.out 2).trans rfl; have r3 := (blk_cell BC1.out 3).trans rfl; clear hb))
        go_ret
        refine ⟨_, rfl, ?_, HB1.out⟩
        rw [HD2.out (by omega)]
        exact Kd.R_nil _ _ _ _ _
    · replace hm : mayP fs xs ts a = false := by simpa using hm
      rw [hm] at HMAY
      have HM := Aside0.mk hm
      clear hm
      go_enter Try.func9, Try.ntmps9
      go_wp2_with (first
        | (go_at_call 16; (with_reducible refine (HMAY.out _ (below_alloc (Below.refl _ _) _)).mono ?_); rintro e w1 ⟨rfl, hb⟩; have HB1 := Aside0.mk (below_step (below_alloc (Below.refl _ _) _) hb); have BC1 := Aside0.mk (blk_below (blk_new w _) hb); have r0 := (blk_cell BC1.out 0).trans rfl; have r1 := (blk_cell BC1.out 1).trans rfl; have r2 := (blk_cell BC1.out 2).trans rfl; have r3 := (blk_cell BC1.out 3).trans rfl; clear hb))
      go_ret
      refine ⟨_, rfl, ?_, HB1.out⟩
      rw [HD.out HM.out]
      exact Kd.R_nil _ _ _ _ _
  · rw [if_neg hsz] at h
    exact absurd h (by simp)
end Go.Proofs.Ytnhipgmphhndhaa.Q
