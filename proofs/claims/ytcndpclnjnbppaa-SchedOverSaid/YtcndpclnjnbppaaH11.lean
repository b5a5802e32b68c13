import Derived.Test.YtcndpclnjnbppaaH10
import Derived.Outline
import Derived.Deep.DrawnRows
namespace Go.Proofs.Ytcndpclnjnbppaa.Q
open Go.RowKit Go.Proofs.YtcndpclnjnbppaaW.PrintWords Go.Proofs.YtcndpclnjnbppaaW.PrintLast Go.Proofs.YtcndpclnjnbppaaW.PrintMore
attribute [local go_sem ↓] Go.wp_at_zero Go.wp_at_succ
set_option linter.unusedVariables false
set_option linter.unusedSimpArgs false
section
variable {ok : Nat → Prop} {w0 w : World} {g : Nat} {l : List S54}
theorem IsR.elem2 {w1 : World} {b c : Nat} (hI : IsR ok w0 w g l) (hB : Below w0.heap.size w0 w) (hb : Below w.heap.size w w1) (i : Int) (h0 : 0 ≤ i) (h1 : i < (l.length : Int)) (hc : w.cell? ⟨g, 0, none⟩ = some (.slice (some ⟨b, 0, none⟩) l.length c)) :
    w1.cell? ⟨g, 0, none⟩ = some (.slice (some ⟨b, 0, none⟩) l.length c) ∧ ∃ v1, w1.cell? ⟨b, i.toNat * 3, none⟩ = some (.bool (decide ((rd_T54 l i).f0 = 2))) ∧ w1.cell? ⟨b, i.toNat * 3 + 1, none⟩ = some (.bool (decide ((rd_T54 l i).f0 = 1))) ∧ w1.cell? ⟨b, i.toNat * 3 + 2, none⟩ = some v1 ∧ w1.frozen? ⟨b, i.toNat * 3, none⟩ = false ∧ w1.frozen? ⟨b, i.toNat * 3 + 1, none⟩ = false ∧ w1.frozen? ⟨b, i.toNat * 3 + 2, none⟩ = false ∧
      ∀ (x' : S54) (v' : Value) (okp : Nat → Prop), OkX x' → Kd.R (Kd.int .i64) 3 w1 w0.heap.size okp v' x'.f1 → (∀ k, okp k → ok k) → IsR ok w0 (((w1.setCell ⟨b, i.toNat * 3, none⟩ (.bool (decide (x'.f0 = 2)))).setCell ⟨b, i.toNat * 3 + 1, none⟩ (.bool (decide (x'.f0 = 1)))).setCell ⟨b, i.toNat * 3 + 2, none⟩ v') g (l.set i.toNat x') ∧ KeepE 38 59 w (((w1.setCell ⟨b, i.toNat * 3, none⟩ (.bool (decide (x'.f0 = 2)))).setCell ⟨b, i.toNat * 3 + 1, none⟩ (.bool (decide (x'.f0 = 1)))).setCell ⟨b, i.toNat * 3 + 2, none⟩ v') ∧ Below w0.heap.size w0 (((w1.setCell ⟨b, i.toNat * 3, none⟩ (.bool (decide (x'.f0 = 2)))).setCell ⟨b, i.toNat * 3 + 1, none⟩ (.bool (decide (x'.f0 = 1)))).setCell ⟨b, i.toNat * 3 + 2, none⟩ v') := by
  obtain ⟨b2, c2, v1, q0, q1, q2, q3, q3', q4, q5, q5', q6⟩ := (hI.below hb).elem (below_then hB hB.size hb) i h0 h1
  have e := pw_cell_below hb hc
  rw [e] at q0
  injection q0 with q0
  injection q0 with q0 _ q7
  injection q0 with q0
  injection q0 with q0
  subst q0; subst q7
  refine ⟨e, v1, q2, q3, q3', q4, q5, q5', fun x' v' okp hx hR ho => ?_⟩
  obtain ⟨r1, r2, r3⟩ := q6 x' v' okp hx hR ho
  exact ⟨r1, (KeepE.of_below hb).trans r2, r3⟩
theorem keepE1 {W : World} {a b i j : Nat} {x : Value} (hne : a ≠ b) : (W.setCell ⟨b, i, none⟩ x).cell? ⟨a, j, none⟩ = W.cell? ⟨a, j, none⟩ := World.cell?_setCell_other _ _ _ _ (fun e => hne (by injection e with e1; exact e1.symm))
/-- What lies in memory behind 'x.Vars = append(x.Vars, vars...)', and what the store of x makes of the table. -/
theorem wait_store {n : Int} {vs : List Int} {b c cu : Nat} {Au : Option Addr} {w1 : World} (hI : IsR ok w0 w g l) (hB : Below w0.heap.size w0 w) (hok : ∀ k, w.heap.size ≤ k → ok k) (hl : vs.length ≤ 1000) (h0 : 0 ≤ n) (h1 : n < (l.length : Int)) (hc : w.cell? ⟨g, 0, none⟩ = some (.slice (some ⟨b, 0, none⟩) l.length c))
    (ho : Kd.R (Kd.int .i64) 3 w1 w.heap.size (fun _ => True) (.slice Au vs.length cu) vs) (hb : Below w.heap.size w w1) (hg : (w.alloc (.cells #[.bool false, .bool true, .slice none 0 0] 59)).grownBy w1 none) :
    w1.heap[w.heap.size]? = some (.cells #[.bool false, .bool true, .slice none 0 0] 59 (0, 0)) ∧ w1.cell? ⟨w.heap.size, 0, none⟩ = some (.bool false) ∧ w1.cell? ⟨w.heap.size, 1, none⟩ = some (.bool true) ∧ w1.cell? ⟨w.heap.size, 2, none⟩ = some (.slice none 0 0) ∧ w1.frozen? ⟨w.heap.size, 2, none⟩ = false ∧
      (w1.setCell ⟨w.heap.size, 2, none⟩ (.slice Au vs.length cu)).cell? ⟨g, 0, none⟩ = some (.slice (some ⟨b, 0, none⟩) l.length c) ∧ (w1.setCell ⟨w.heap.size, 2, none⟩ (.slice Au vs.length cu)).cell? ⟨w.heap.size, 0, none⟩ = some (.bool false) ∧ (w1.setCell ⟨w.heap.size, 2, none⟩ (.slice Au vs.length cu)).cell? ⟨w.heap.size, 1, none⟩ = some (.bool true) ∧ (w1.setCell ⟨w.heap.size, 2, none⟩ (.slice Au vs.length cu)).cell? ⟨w.heap.size, 2, none⟩ = some (.slice Au vs.length cu) ∧
      ∃ v1, (w1.setCell ⟨w.heap.size, 2, none⟩ (.slice Au vs.length cu)).cell? ⟨b, n.toNat * 3, none⟩ = some (.bool (decide ((rd_T54 l n).f0 = 2))) ∧ (w1.setCell ⟨w.heap.size, 2, none⟩ (.slice Au vs.length cu)).cell? ⟨b, n.toNat * 3 + 1, none⟩ = some (.bool (decide ((rd_T54 l n).f0 = 1))) ∧ (w1.setCell ⟨w.heap.size, 2, none⟩ (.slice Au vs.length cu)).cell? ⟨b, n.toNat * 3 + 2, none⟩ = some v1 ∧ (w1.setCell ⟨w.heap.size, 2, none⟩ (.slice Au vs.length cu)).frozen? ⟨b, n.toNat * 3, none⟩ = false ∧ (w1.setCell ⟨w.heap.size, 2, none⟩ (.slice Au vs.length cu)).frozen? ⟨b, n.toNat * 3 + 1, none⟩ = false ∧ (w1.setCell ⟨w.heap.size, 2, none⟩ (.slice Au vs.length cu)).frozen? ⟨b, n.toNat * 3 + 2, none⟩ = false ∧
        IsR ok w0 (((((w1.setCell ⟨w.heap.size, 2, none⟩ (.slice Au vs.length cu)).setCell ⟨b, n.toNat * 3, none⟩ (.bool false)).setCell ⟨b, n.toNat * 3 + 1, none⟩ (.bool true)).setCell ⟨b, n.toNat * 3 + 2, none⟩ (.slice Au vs.length cu)).drew) g (l.set n.toNat ⟨1, vs⟩) ∧ KeepE 38 59 w (((((w1.setCell ⟨w.heap.size, 2, none⟩ (.slice Au vs.length cu)).setCell ⟨b, n.toNat * 3, none⟩ (.bool false)).setCell ⟨b, n.toNat * 3 + 1, none⟩ (.bool true)).setCell ⟨b, n.toNat * 3 + 2, none⟩ (.slice Au vs.length cu)).drew) ∧ Below w0.heap.size w0 (((((w1.setCell ⟨w.heap.size, 2, none⟩ (.slice Au vs.length cu)).setCell ⟨b, n.toNat * 3, none⟩ (.bool false)).setCell ⟨b, n.toNat * 3 + 1, none⟩ (.bool true)).setCell ⟨b, n.toNat * 3 + 2, none⟩ (.slice Au vs.length cu)).drew) := by
  have hbx : w1.heap[w.heap.size]? = some (.cells #[.bool false, .bool true, .slice none 0 0] 59 (0, 0)) := (hg.block _ (by simp) (by simp)).trans (blk_new w _)
  have hbx2 := blk_put hbx 2 (.slice Au vs.length cu) (cs' := #[.bool false, .bool true, .slice Au vs.length cu]) rfl
  have hW : Below w.heap.size w (w1.setCell ⟨w.heap.size, 2, none⟩ (.slice Au vs.length cu)) := below_set hb (Nat.le_refl _)
  have hRW := Kd.R_set ho hbx (ty_int (by decide)) 2 (.slice Au vs.length cu)
  obtain ⟨q0, v1, q1, q2, q3, q4, q5, q6, q7⟩ := hI.elem2 hB (below_drew hW) n h0 h1 hc
  obtain ⟨r1, r2, r3⟩ := q7 ⟨1, vs⟩ (.slice Au vs.length cu) (fun k => w.heap.size ≤ k) ⟨.inr (.inl rfl), hl⟩ (Kd.R_drew (Kd.R_lower (Kd.R_mono (Kd.R_bound hRW) (fun k hk => hk.2.1)) hB.size)) hok
  simp only [World.setCell_drew] at r1 r2 r3
  exact ⟨hbx, (blk_cell hbx 0).trans rfl, (blk_cell hbx 1).trans rfl, (blk_cell hbx 2).trans rfl, blk_frozen hbx 2, q0, (blk_cell hbx2 0).trans rfl, (blk_cell hbx2 1).trans rfl, (blk_cell hbx2 2).trans rfl, v1, q1, q2, q3, q4, q5, q6, r1, r2, r3⟩
set_option maxHeartbeats 4000000 in
theorem r_Wait (n : Int) (A : Option Addr) (ca : Nat) (vs : List Int) (hI : IsR ok w0 w g l) (hB : Below w0.heap.size w0 w) (hok : ∀ k, w.heap.size ≤ k → ok k) (hca : vs.length ≤ ca) (hC : Kd.C (Kd.int .i64) w A vs.length vs) (hl : vs.length ≤ 1000) :
    Calls Try.prog 33 #[.pointer (some ⟨g, 0, none⟩), .int .i64 n, .slice A vs.length ca] w fun e w' => e = .returned (.int .i64 (waitR l n)) ∧ IsR ok w0 w' g (waitL l n vs) ∧ Below w0.heap.size w0 w' ∧ KeepE 38 59 w w' := by
  have HI := Aside0.mk hI
  have HB := Aside0.mk hB
  have HC := Aside0.mk hC
  have HOK := Aside0.mk hok
  have HL := Aside0.mk hl
  have hu36 := Try.underlying36
  have hu38 := Try.underlying38
  have hu59 := Try.underlying59
  unfold waitR waitL
  by_cases hn : 0 ≤ n ∧ n < (l.length : Int)
  · obtain ⟨h0, h1⟩ := hn
    rw [tIs_get n 0 h0 h1]
    have h0' : ¬ n < 0 := by omega
    have h1' : ¬ (l.length : Int) ≤ n := by omega
    obtain ⟨b, c, v1, hc0, hf0, hx0, hx1, hx2, hz0, hz1, hz2, hst⟩ := hI.elem hB n h0 h1
    have hkind := (hI.2.1.get n).1
    have d0 := decide_eq_true h0
    have d1 := decide_eq_true h1
    have H0 := Aside0.mk h0
    have H1 := Aside0.mk h1
    have HC0 := Aside0.mk hc0
    have hgb := hI.ne (by omega) hc0
    have hbb : w.heap.size ≠ b := by have h5 : b < w.heap.size := World.block_lt_of_cell? w _ hx0; omega
    clear hI hB hst hC hok hl
    generalize hx : rd_T54 l n = x at *
    rcases hkind with hk | hk | hk
    · rw [hk] at hx0 hx1 ⊢
      replace hx0 : w.cell? ⟨b, n.toNat * 3, none⟩ = some (.bool false) := hx0
      replace hx1 : w.cell? ⟨b, n.toNat * 3 + 1, none⟩ = some (.bool false) := hx1
      clear hk hx
      go_enter Try.func33, Try.ntmps33
      go_wp2_with (first
        | ((with_reducible refine gate_builtin (b := .append) (xs := #[.tmp 41, .tmp 42]) rfl ?_); at_builtin; refine Kd.R_append_row (Value.int .i64) (0 : Int) (w0 := w) w.heap.size rfl (.tmp 41) (.tmp 42) 22 3 (.int .i64 0) 8 rfl Try.underlying22 info3 rfl (by omega) (.slice none 0 0) [] vs A vs.length ca (fun _ => True) rfl rfl (fun _ _ => trivial) (Kd.R_nil _ _ _ _ _) (Kd.C_alloc HC.out _) (below_alloc (Below.refl _ _) _) (by simp) (by have := HL.out; simp; omega) ?_; intro u w1 ho hb hg hat; obtain ⟨Au, cu, rfl, hcu, hCu⟩ := Kd.R_reads ho; simp only [List.nil_append] at ho; obtain ⟨hbx, hy0, hy1, hy2, hy3, hy4, hy5, hy6, hy7, v3, q1, q2, q3, q4, q5, q6, s1, s2, s3⟩ := wait_store HI.out HB.out HOK.out HL.out H0.out H1.out HC0.out ho hb hg; have S1 := Aside0.mk s1; have S2 := Aside0.mk s2; have S3 := Aside0.mk s3; clear ho hb hg hat hCu hcu hbx s1 s2 s3))
      have hfa : ∀ (W : World) (i : Nat) (x : Value), (W.setCell ⟨b, i, none⟩ x).cell? ⟨g, 0, none⟩ = W.cell? ⟨g, 0, none⟩ := fun W i x => keepE1 hgb
      have hfb : ∀ (W : World) (i j : Nat) (x : Value), (W.setCell ⟨b, i, none⟩ x).cell? ⟨w.heap.size, j, none⟩ = W.cell? ⟨w.heap.size, j, none⟩ := fun W i j x => keepE1 hbb
      go_region_held3 (fun w' => w'.cell? ⟨g, 0, none⟩ = some (.slice (some ⟨b, 0, none⟩) l.length c) ∧ w'.cell? ⟨w.heap.size, 0, none⟩ = some (.bool false) ∧ w'.cell? ⟨w.heap.size, 1, none⟩ = some (.bool true) ∧ w'.cell? ⟨w.heap.size, 2, none⟩ = some (.slice Au vs.length cu)) (go_keep) (fail)
      all_goals go_wp2
      all_goals go_ret
      all_goals exact ⟨rfl, S1.out, S3.out, S2.out⟩
    · rw [hk] at hx0 hx1 ⊢
      replace hx0 : w.cell? ⟨b, n.toNat * 3, none⟩ = some (.bool false) := hx0
      replace hx1 : w.cell? ⟨b, n.toNat * 3 + 1, none⟩ = some (.bool true) := hx1
      clear hk hx
      go_enter Try.func33, Try.ntmps33
      go_wp2
      go_ret
      exact ⟨rfl, HI.out, HB.out, KeepE.refl _⟩
    · rw [hk] at hx0 hx1 ⊢
      replace hx0 : w.cell? ⟨b, n.toNat * 3, none⟩ = some (.bool true) := hx0
      clear hk hx hx1
      go_enter Try.func33, Try.ntmps33
      go_wp2
      go_ret
      exact ⟨rfl, HI.out, HB.out, KeepE.refl _⟩
  · rw [tIs_out n 0 hn]
    obtain ⟨A', c, hc, hf, hlc, hC'⟩ := hI.open_
    clear hI hB hC hC' hok
    by_cases h0 : n < 0
    · clear hn
      go_enter Try.func33, Try.ntmps33
      go_wp2
      go_ret
      exact ⟨rfl, HI.out, HB.out, KeepE.refl _⟩
    · have h1 : (l.length : Int) ≤ n := by omega
      clear hn
      go_enter Try.func33, Try.ntmps33
      go_wp2
      go_ret
      exact ⟨rfl, HI.out, HB.out, KeepE.refl _⟩
end
end Go.Proofs.Ytcndpclnjnbppaa.Q
