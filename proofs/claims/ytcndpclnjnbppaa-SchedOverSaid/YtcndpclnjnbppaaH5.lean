import Derived.Test.YtcndpclnjnbppaaH4
import Derived.WalkSpells
namespace Go.Proofs.Ytcndpclnjnbppaa.Q
open Go.RowKit Go.Proofs.YtcndpclnjnbppaaW.PrintWords Go.Proofs.YtcndpclnjnbppaaW.PrintLast Go.Proofs.YtcndpclnjnbppaaW.PrintMore
set_option linter.unusedVariables false
set_option linter.unusedSimpArgs false
theorem ty_int {a : Nat} (ha : 3 ≠ a) : ∀ q, q ∈ 3 :: (Kd.int .i64).E → q ≠ a := by
  intro q hq
  have h3 : q = 3 := by simpa [Kd.int, Kd.scalar] using hq
  rw [h3]
  exact ha
theorem ty_54 {a : Nat} (h1 : 54 ≠ a) (h2 : 3 ≠ a) : ∀ q, q ∈ 54 :: k54.E → q ≠ a := by
  intro q hq
  have h3 : q = 54 ∨ q = 3 := by simpa [k54, Kd.iso, Kd.pair, Kd.int, Kd.scalar, Kd.slice] using hq
  rcases h3 with rfl | rfl
  · exact h1
  · exact h2
theorem ty_59 {a : Nat} (h1 : 59 ≠ a) (h2 : 3 ≠ a) : ∀ q, q ∈ 59 :: kR.E → q ≠ a := by
  intro q hq
  have h3 : q = 59 ∨ q = 3 := by simpa [kR, k59, Kd.iso, Kd.pair, Kd.int, Kd.bool, Kd.scalar, Kd.slice] using hq
  rcases h3 with rfl | rfl
  · exact h1
  · exact h2
theorem Good.add {l : List S54} (h : Good l) (h8 : l.length < 8) : Good (l ++ [z54]) := by
  have := h.addL
  unfold Q.addL at this
  rwa [if_pos h8] at this
/-! ### stores into an element -/
theorem row_form {α : Type} {d : Kd α} {e : Nat} {w : World} {base : Nat} {ok : Nat → Prop} {v : Value} {xs : List α} (h : d.R e w base ok v xs) (hn : 0 < xs.length) : ∃ b c, v = .slice (some ⟨b, 0, none⟩) xs.length c ∧ base ≤ b ∧ ok b ∧ ∃ cs, w.heap[b]? = some (.cells cs e (0, 0)) := by
  obtain ⟨inner, ho⟩ := Kd.R_own h
  obtain ⟨b, c, rfl, hb, _⟩ := ho.form hn
  exact ⟨b, c, rfl, hb, h.1 b (by simp [Value.ownBlock]), own_typed ho b (by simp [Value.ownBlock])⟩
/-- Element i of a table of the program: where it lies, and what a store makes of it. -/
theorem IsT.elem {ok : Nat → Prop} {w0 w : World} {g : Nat} {l : List S54} (hI : IsT ok w0 w g l) (hB : Below w0.heap.size w0 w) (i : Int) (h0 : 0 ≤ i) (h1 : i < (l.length : Int)) :
    ∃ b c v1, w.cell? ⟨g, 0, none⟩ = some (.slice (some ⟨b, 0, none⟩) l.length c) ∧ w.frozen? ⟨g, 0, none⟩ = false ∧ w.cell? ⟨b, i.toNat * 2, none⟩ = some (.int .i64 (rd_T54 l i).f0) ∧ w.cell? ⟨b, i.toNat * 2 + 1, none⟩ = some v1 ∧ w.frozen? ⟨b, i.toNat * 2, none⟩ = false ∧ w.frozen? ⟨b, i.toNat * 2 + 1, none⟩ = false ∧
      ∀ (x' : S54) (v' : Value) (okp : Nat → Prop), OkX x' → Kd.R (Kd.int .i64) 3 w w0.heap.size okp v' x'.f1 → (∀ k, okp k → ok k) → IsT ok w0 ((w.setCell ⟨b, i.toNat * 2, none⟩ (.int .i64 x'.f0)).setCell ⟨b, i.toNat * 2 + 1, none⟩ v') g (l.set i.toNat x') ∧ KeepE 52 54 w ((w.setCell ⟨b, i.toNat * 2, none⟩ (.int .i64 x'.f0)).setCell ⟨b, i.toNat * 2 + 1, none⟩ v') ∧ Below w0.heap.size w0 ((w.setCell ⟨b, i.toNat * 2, none⟩ (.int .i64 x'.f0)).setCell ⟨b, i.toNat * 2 + 1, none⟩ v') := by
  obtain ⟨hg, hG, v, hv, hr⟩ := hI
  obtain ⟨b, c, rfl, hb, hok, cs, hcs⟩ := row_form hr (by omega)
  obtain ⟨ce, hcl, hM, hcc, hfz⟩ := Kd.R_elem hr z54 i h0 h1
  obtain ⟨v1, rfl, hM1⟩ := k54_openM hM
  have hne : g ≠ b := blk_ne hv hcs (by decide)
  refine ⟨b, c, v1, (blk_cell hv 0).trans rfl, blk_frozen hv 0, hcc 0 _ rfl, hcc 1 _ rfl, hfz 0, hfz 1, fun x' v' okp hx hR hokp => ?_⟩
  have hRb : Kd.R (Kd.int .i64) 3 w w0.heap.size (fun k => okp k ∧ k ≠ b) v' x'.f1 := Kd.R_types hR hcs (ty_int (by decide))
  have hs := Kd.R_seg hr i h0 h1 hcl hcc (seg := [.int .i64 x'.f0, v']) (j := 0) (by exact Nat.le_refl _) (x' := x') (okp := fun k => okp k ∧ k ≠ b) (k54_mkM w _ _ x' hRb) (fun k hk => ⟨hokp k hk.1, hk.2⟩)
  have hw : w.setCells b (i.toNat * k54.sz + 0) [.int .i64 x'.f0, v'] = (w.setCell ⟨b, i.toNat * 2, none⟩ (.int .i64 x'.f0)).setCell ⟨b, i.toNat * 2 + 1, none⟩ v' := rfl
  rw [hw] at hs
  refine ⟨⟨hg, hG.set _ _ hx, _, (hs.2.block g (blk_lt hv) (by intro he; injection he with he; exact hne he)).trans hv, hs.1⟩, ?_, ?_⟩
  · exact KeepE.grown hs.2 (fun k hk => by injection hk with hk; subst hk; exact ⟨cs, .inr hcs⟩)
  · exact hB.grown hs.2 hB.size (fun k hk => by injection hk with hk; omega)
/-- The same of a table of the document. -/
theorem IsR.elem {ok : Nat → Prop} {w0 w : World} {g : Nat} {l : List S54} (hI : IsR ok w0 w g l) (hB : Below w0.heap.size w0 w) (i : Int) (h0 : 0 ≤ i) (h1 : i < (l.length : Int)) :
    ∃ b c v1, w.cell? ⟨g, 0, none⟩ = some (.slice (some ⟨b, 0, none⟩) l.length c) ∧ w.frozen? ⟨g, 0, none⟩ = false ∧ w.cell? ⟨b, i.toNat * 3, none⟩ = some (.bool (decide ((rd_T54 l i).f0 = 2))) ∧ w.cell? ⟨b, i.toNat * 3 + 1, none⟩ = some (.bool (decide ((rd_T54 l i).f0 = 1))) ∧ w.cell? ⟨b, i.toNat * 3 + 2, none⟩ = some v1 ∧ w.frozen? ⟨b, i.toNat * 3, none⟩ = false ∧ w.frozen? ⟨b, i.toNat * 3 + 1, none⟩ = false ∧ w.frozen? ⟨b, i.toNat * 3 + 2, none⟩ = false ∧
      ∀ (x' : S54) (v' : Value) (okp : Nat → Prop), OkX x' → Kd.R (Kd.int .i64) 3 w w0.heap.size okp v' x'.f1 → (∀ k, okp k → ok k) → IsR ok w0 (((w.setCell ⟨b, i.toNat * 3, none⟩ (.bool (decide (x'.f0 = 2)))).setCell ⟨b, i.toNat * 3 + 1, none⟩ (.bool (decide (x'.f0 = 1)))).setCell ⟨b, i.toNat * 3 + 2, none⟩ v') g (l.set i.toNat x') ∧ KeepE 38 59 w (((w.setCell ⟨b, i.toNat * 3, none⟩ (.bool (decide (x'.f0 = 2)))).setCell ⟨b, i.toNat * 3 + 1, none⟩ (.bool (decide (x'.f0 = 1)))).setCell ⟨b, i.toNat * 3 + 2, none⟩ v') ∧ Below w0.heap.size w0 (((w.setCell ⟨b, i.toNat * 3, none⟩ (.bool (decide (x'.f0 = 2)))).setCell ⟨b, i.toNat * 3 + 1, none⟩ (.bool (decide (x'.f0 = 1)))).setCell ⟨b, i.toNat * 3 + 2, none⟩ v') := by
  obtain ⟨hg, hG, v, hv, hr⟩ := hI
  obtain ⟨b, c, rfl, hb, hok, cs, hcs⟩ := row_form hr (by omega)
  obtain ⟨ce, hcl, hM, hcc, hfz⟩ := Kd.R_elem hr z54 i h0 h1
  obtain ⟨v1, rfl, hM1⟩ := k59_openM (x := toR (rd_T54 l i)) hM
  have hne : g ≠ b := blk_ne hv hcs (by decide)
  refine ⟨b, c, v1, (blk_cell hv 0).trans rfl, blk_frozen hv 0, hcc 0 _ rfl, hcc 1 _ rfl, hcc 2 _ rfl, hfz 0, hfz 1, hfz 2, fun x' v' okp hx hR hokp => ?_⟩
  have hRb : Kd.R (Kd.int .i64) 3 w w0.heap.size (fun k => okp k ∧ k ≠ b) v' x'.f1 := Kd.R_types hR hcs (ty_int (by decide))
  have hs := Kd.R_seg hr i h0 h1 hcl hcc (seg := [.bool (decide (x'.f0 = 2)), .bool (decide (x'.f0 = 1)), v']) (j := 0) (by exact Nat.le_refl _) (x' := x') (okp := fun k => okp k ∧ k ≠ b) (k59_mkM w _ _ (toR x') hRb) (fun k hk => ⟨hokp k hk.1, hk.2⟩)
  have hw : w.setCells b (i.toNat * kR.sz + 0) [.bool (decide (x'.f0 = 2)), .bool (decide (x'.f0 = 1)), v'] = ((w.setCell ⟨b, i.toNat * 3, none⟩ (.bool (decide (x'.f0 = 2)))).setCell ⟨b, i.toNat * 3 + 1, none⟩ (.bool (decide (x'.f0 = 1)))).setCell ⟨b, i.toNat * 3 + 2, none⟩ v' := rfl
  rw [hw] at hs
  refine ⟨⟨hg, hG.set _ _ hx, _, (hs.2.block g (blk_lt hv) (by intro he; injection he with he; exact hne he)).trans hv, hs.1⟩, ?_, ?_⟩
  · exact KeepE.grown hs.2 (fun k hk => by injection hk with hk; subst hk; exact ⟨cs, .inr hcs⟩)
  · exact hB.grown hs.2 hB.size (fun k hk => by injection hk with hk; omega)
section
variable {ok : Nat → Prop} {w0 w : World} {g : Nat} {l : List S54}
/-! ### New, Add -/
set_option maxHeartbeats 1000000 in
theorem t_New (hB : Below w0.heap.size w0 w) : Calls Try.prog 8 #[] w fun e w' => ∃ g, e = .returned (.pointer (some ⟨g, 0, none⟩)) ∧ IsT ok w0 w' g [] ∧ Below w.heap.size w w' ∧ w.heap.size ≤ g := by
  have hu52 := Try.underlying52
  have HB := Aside0.mk hB
  clear hB
  go_enter Try.func8, Try.ntmps8
  go_wp2
  go_ret
  exact ⟨_, rfl, ⟨HB.out.size, Good.nil, _, blk_new w _, Kd.R_nil _ _ _ _ _⟩, below_alloc (Below.refl _ _) _, Nat.le_refl _⟩
/-- What an append to a table's row leaves. -/
theorem IsT.appended {w1 w2 : World} {v v1 : Value} {x : S54} (hI : IsT ok w0 w g l) (hx : Good (l ++ [x])) (hv : w1.heap[g]? = some (.cells #[v] 52 (0, 0))) (hb : Below w.heap.size w w1) (hty : ∀ k, v.ownBlock = some k → ∃ cs, w1.heap[k]? = some (.cells cs 54 (0, 0))) (hr : k54.R 54 w2 w0.heap.size ok v1 (l ++ [x])) (hB : Below w0.heap.size w0 w2) (hg : w1.grownBy w2 v.ownBlock) :
    IsT ok w0 (w2.setCell ⟨g, 0, none⟩ v1) g (l ++ [x]) ∧ Below w0.heap.size w0 (w2.setCell ⟨g, 0, none⟩ v1) ∧ KeepE 52 54 w (w2.setCell ⟨g, 0, none⟩ v1) ∧ w2.heap[g]? = some (.cells #[v] 52 (0, 0)) := by
  have hv2 : w2.heap[g]? = some (.cells #[v] 52 (0, 0)) := by
    refine (hg.block g (blk_lt hv) ?_).trans hv
    intro he
    obtain ⟨cs, hc⟩ := hty g he.symm
    rw [hv] at hc
    injection hc with hc
    injection hc with _ ht
    exact absurd ht (by decide)
  refine ⟨⟨hI.1, hx, v1, blk_put hv2 0 v1 rfl, ?_⟩, below_set hB hI.1, ?_, hv2⟩
  · exact Kd.R_set hr hv2 (ty_54 (by decide) (by decide)) 0 v1
  · refine (KeepE.of_below hb).trans ((KeepE.grown hg (fun k hk => ?_)).trans (KeepE.setCell (.inl hv2) v1))
    obtain ⟨cs, hc⟩ := hty k hk
    exact ⟨cs, .inr hc⟩
set_option maxHeartbeats 2000000 in
theorem t_Add (hI : IsT ok w0 w g l) (hB : Below w0.heap.size w0 w) (hok : ∀ k, w.heap.size ≤ k → ok k) : Calls Try.prog 9 #[.pointer (some ⟨g, 0, none⟩)] w fun e w' => e = .returned (.tuple #[.int .i64 (addR l).1, .int .i64 (addR l).2]) ∧ IsT ok w0 w' g (addL l) ∧ Below w0.heap.size w0 w' ∧ KeepE 52 54 w w' := by
  have HI := Aside0.mk hI
  have HOK := Aside0.mk hok
  have HB := Aside0.mk hB
  have hu50 := Try.underlying50
  have hu52 := Try.underlying52
  have hu54 := Try.underlying54
  obtain ⟨hg, hG, v, hv, hr⟩ := hI
  obtain ⟨A, c, rfl, hlc, hC⟩ := Kd.R_reads hr
  have hc : w.cell? ⟨g, 0, none⟩ = some (.slice A l.length c) := (blk_cell hv 0).trans rfl
  have hf : w.frozen? ⟨g, 0, none⟩ = false := blk_frozen hv 0
  have HV := Aside0.mk hv
  have HR := Aside0.mk hr
  clear hok hB hC hr hG
  unfold addR addL
  by_cases h8 : l.length < 8
  · rw [if_pos h8, if_pos h8]
    have h8' : ¬ (8 : Int) ≤ (l.length : Int) := by omega
    have h8n : ¬ 8 ≤ l.length := by omega
    have H8 := Aside0.mk h8
    have hlt := blk_lt hv
    clear hv
    go_enter Try.func9, Try.ntmps9
    go_wp2_with (first | ((with_reducible refine gate_builtin (b := .append) (xs := #[.tmp 14, .tmp 16]) rfl ?_); at_builtin; refine Kd.R_append k54 (w0 := w0) w0.heap.size rfl (.tmp 14) (.tmp 16) 50 54 (.agg #[.int .i64 0, .slice none 0 0]) 32 rfl Try.underlying50 info54 rfl (by decide) (by omega) (.slice A l.length c) l z54 [.int .i64 0, .slice none 0 0] ok (fun _ => False) rfl rfl (k54_mkM _ _ _ z54 (Kd.R_nil _ _ _ _ _)) (fun _ hk => hk.elim) HOK.out HR.out HB.out HB.out.size (by have := H8.out; omega) ?_; intro v1 w1 ho hb hgr hat; obtain ⟨A1, c1, rfl, hlc1, hC1⟩ := Kd.R_reads ho; obtain ⟨P1, P2, P3, P4⟩ := HI.out.appended (x := z54) (HI.out.2.1.add H8.out) HV.out (Below.refl _ _) (fun k hk => Kd.R_typed HR.out k hk) ho hb hgr; rw [show (l ++ [z54]).length = l.length + 1 from by simp] at P1 P2 P3; have hz1 : w1.cell? ⟨g, 0, none⟩ = some (.slice A l.length c) := (blk_cell P4 0).trans rfl; have hz2 := blk_frozen P4 0; have AP1 := Aside0.mk P1; have AP2 := Aside0.mk P2; have AP3 := Aside0.mk P3; clear P1 P2 P3 P4 ho hb hgr hat hC1 hlc1))
    go_ret2
    exact ⟨rfl, AP1.out, AP2.out, AP3.out⟩
  · rw [if_neg h8, if_neg h8]
    have h8' : (8 : Int) ≤ (l.length : Int) := by omega
    have h8n : 8 ≤ l.length := by omega
    clear hv
    go_enter Try.func9, Try.ntmps9
    go_wp2
    go_ret2
    exact ⟨rfl, HI.out, HB.out, KeepE.refl _⟩
end
end Go.Proofs.Ytcndpclnjnbppaa.Q
