import Derived.Test.YtadbiogchgglpaaQx10
import Derived.Lib.SmallJoins
namespace Go.Proofs.Ytadbiogchgglpaa.Q
open Go.RowKit Go.Proofs.YtadbiogchgglpaaW.PrintWords Go.Proofs.YtadbiogchgglpaaW.PrintLast Go.Proofs.YtadbiogchgglpaaW.PrintMore
attribute [local go_sem] max2_int min2_int max_two min_two max_three min_three max_four min_four
set_option linter.unusedVariables false
set_option linter.unusedSimpArgs false
/-- A full row of bytes at block g, which nobody writes: what '[]byte("..")' of a constant makes. -/
def Mark (w : World) (g : Nat) (xs : List Int) : Prop := g < w.heap.size ∧ xs.length ≤ 1000 ∧ ∀ j u, (encs (Value.int .u8) xs)[j]? = some u → w.cell? ((⟨g, 0, none⟩ : Addr).add j) = some u
theorem Mark.below {w w1 : World} {g : Nat} {xs : List Int} (h : Mark w g xs) (hb : Below w.heap.size w w1) : Mark w1 g xs :=
  ⟨Nat.lt_of_lt_of_le h.1 hb.size, h.2.1, fun j u hj => (hb.cell (p := (⟨g, 0, none⟩ : Addr).add j) (by rw [Addr.add_lit]; exact h.1)).trans (h.2.2 j u hj)⟩
theorem Mark.alloc {w : World} {g : Nat} {xs : List Int} (h : Mark w g xs) (o : Obj) : Mark (w.alloc o) g xs := h.below (bA (Below.refl _ _) o)
theorem Mark.drewN {w : World} {g : Nat} {xs : List Int} (h : Mark w g xs) (m : Nat) : Mark (w.drewN m) g xs := h.below (bN (Below.refl _ _) m)
theorem Mark.drew {w : World} {g : Nat} {xs : List Int} (h : Mark w g xs) : Mark w.drew g xs := h.below (bD (Below.refl _ _))
/-- That row, or one of the call's own. -/
def MR (g : Nat) (l0 : List Int) (base : Nat) (w : World) (v : Value) (xs : List Int) : Prop := Kd.R (Kd.int .u8) 5 w base (fun _ => True) v xs ∨ (Mark w g l0 ∧ v = .slice (some ⟨g, 0, none⟩) l0.length l0.length ∧ xs = l0)
theorem MR.alloc {g : Nat} {l0 : List Int} {base : Nat} {w : World} {v : Value} {xs : List Int} (h : MR g l0 base w v xs) (o : Obj) : MR g l0 base (w.alloc o) v xs := h.elim (fun h => .inl (Kd.R_alloc h o)) (fun h => .inr ⟨h.1.alloc o, h.2⟩)
theorem MR.drewN {g : Nat} {l0 : List Int} {base : Nat} {w : World} {v : Value} {xs : List Int} (h : MR g l0 base w v xs) (m : Nat) : MR g l0 base (w.drewN m) v xs := h.elim (fun h => .inl (Kd.R_drewN h m)) (fun h => .inr ⟨h.1.drewN m, h.2⟩)
theorem MR.drew {g : Nat} {l0 : List Int} {base : Nat} {w : World} {v : Value} {xs : List Int} (h : MR g l0 base w v xs) : MR g l0 base w.drew v xs := h.elim (fun h => .inl (Kd.R_drew h)) (fun h => .inr ⟨h.1.drew, h.2⟩)
theorem MR_out {g : Nat} {l0 : List Int} {base base' : Nat} {w : World} {v : Value} {xs : List Int} (h : MR g l0 base w v xs) (hne : xs.length ≠ l0.length) (hb : base' ≤ base) : Kd.R (Kd.int .u8) 5 w base' (fun _ => True) v xs := by
  rcases h with h | ⟨_, _, rfl⟩
  · exact Kd.R_lower h hb
  · exact absurd rfl hne
theorem MR_append {g : Nat} {l0 : List Int} {base : Nat} {w0 W : World} {ops : Array Oper} {rest : List Oper} {o : Oper} {a : Act} {Q : Exit → Act → World → Prop} (hgd : o.guard = none) (s x : Operand)
    (ho : o.op = .call { callee := .builtin .append, args := #[s, x], argTypes := #[28, 28] })
    (v : Value) (xs : List Int) (p : Int) (hs : a.eval s = v) (hx : a.eval x = .slice (some ⟨W.heap.size, 0, none⟩) 1 1)
    (HO : MR g l0 base W v xs) (HB : Below base w0 W) (hbase : base ≤ W.heap.size) (hl : (xs.length + 1) * 1 ≤ 140737488355328)
    (h : ∀ v1 w1, MR g l0 base w1 v1 (xs ++ [p]) → Below base w0 w1 → wpList Try.prog ops Q rest (a.put o.dst v1) w1) :
    wpList Try.prog ops Q (o :: rest) a (W.alloc (.cells #[.int .u8 p] 5)) := by
  rcases HO with HO | ⟨HM, rfl, rfl⟩
  · refine Kd.R_append (Kd.int .u8) (w0 := w0) base hgd s x 28 5 (.int .u8 0) 1 ho Try.underlying28 info5 rfl (by decide) (by omega) v xs p [.int .u8 p] (fun _ => True) (fun _ => False) hs hx rfl (fun _ hk => hk.elim) (fun _ _ => trivial) HO HB hbase hl ?_
    intro v1 w1 h1 h2 _ _
    exact h v1 w1 (.inl h1) h2
  · obtain ⟨i, hi, hz⟩ : ∃ i, Try.prog.info? 5 = some i ∧ (i.zero, i.size, i.bytes) = (some (.int .u8 0), 1, 1) := by
      have := info5
      cases hi : Try.prog.info? 5 with
      | none => rw [hi] at this; simp at this
      | some i => rw [hi] at this; exact ⟨i, rfl, Option.some.inj this⟩
    simp only [Prod.mk.injEq] at hz
    have HM1 := HM.alloc (.cells #[.int .u8 p] 5)
    refine wpList_append_grows (W.alloc (.cells #[.int .u8 p] 5)) hgd s x 28 ho 5 i (.int .u8 0) 1 1 Try.underlying28 hi hz.1 hz.2.1 hz.2.2 rfl (by decide) (some ⟨g, 0, none⟩) xs.length xs.length (encs (Value.int .u8) xs) hs (by simp) (by simp [encs]) ?_ ⟨W.heap.size, 0, none⟩ 1 1 [.int .u8 p] hx rfl (cell_one_new W _ 5) (by intro u hu; simp at hu; subst hu; rfl) (by omega) (by have := HM.2.1; simp only [maxLen]; omega) (by omega) ?_
    · intro b hb j u hj
      cases hb
      exact HM1.2.2 j u hj
    · intro v1 w1 hown hg
      have hb2 : Below base w0 w1 := (HB.alloc hbase _).grown hg (by simp; omega) (fun k hk => by cases hk)
      refine h v1 w1 (.inl (Kd.R_of_own ?_ (fun _ _ => trivial))) hb2
      rw [encs_append, List.length_append]
      exact own_weaken hown (by simp; omega)
/-- '[]byte("SM1")', behind its literal. -/
theorem conv_lit {W : World} {ops : Array Oper} {rest : List Oper} {o : Oper} {a : Act} {Q : Exit → Act → World → Prop} (hgd : o.guard = none) (hop : o.op = .convert 28 28 (.tmp 14))
    (hx : a.eval (.tmp 14) = .slice (some ⟨W.heap.size, 0, none⟩) 3 3)
    (h : ∀ g w1, Mark w1 g [83, 77, 49] → Below W.heap.size W w1 → wpList Try.prog ops Q rest (a.put o.dst (.slice (some ⟨g, 0, none⟩) 3 3)) w1) :
    wpList Try.prog ops Q (o :: rest) a (W.alloc (.cells #[.int .u8 83, .int .u8 77, .int .u8 49] 5)) := by
  refine Kd.event_run hgd (w1 := W.alloc (.cells #[.int .u8 83, .int .u8 77, .int .u8 49] 5 (3, 4))) (v := .slice (some ⟨W.heap.size, 0, none⟩) 3 3) ?_ (h _ _ ⟨by simp, by simp, ?_⟩ (bA (Below.refl _ _) _))
  · have hc := Go.Lib.run_convert_bytes_const (P := Try.prog) W 28 5 #[.int .u8 83, .int .u8 77, .int .u8 49] 3 3 Try.underlying28 Try.underlying5
    unfold execOp
    simp only [hop]
    simp only [Act.eval] at hx
    simp [Act.eval, hx, hc, Result.andThen]
  · intro j u hj
    rw [Addr.add_lit]
    rw [World.cell?_alloc_mark]
    simpa [encs] using hj
set_option maxHeartbeats 8000000 in
set_option maxRecDepth 100000 in
theorem code_put.callsM (k : Nat) (g : Nat) (l0 : List Int) (a1 : Int) (A2 : Option Addr) (c2 : Nat) (l2 : List Int) (r : List Int) (w0 w : World) (hB : Below w0.heap.size w0 w) (hM : Mark w g l0) (hr2 : Kd.C (Kd.int .i64) w A2 l2.length l2) (hc2 : l2.length ≤ c2) (hne : r.length ≠ l0.length) (h : code_put.f k l0 a1 l2 = some r) :
    Calls Try.prog 22 #[.slice (some ⟨g, 0, none⟩) l0.length l0.length, .int .i64 a1, .slice A2 l2.length c2] w fun e w' => ∃ v0_ : Value, e = .returned (v0_) ∧ Kd.R (Kd.int .u8) 5 w' w0.heap.size (fun _ => True) v0_ r ∧ Below w0.heap.size w0 w' ∧ Below w.heap.size w w' := by
  have HO0 := Aside0.mk (show MR g l0 w.heap.size w (.slice (some ⟨g, 0, none⟩) l0.length l0.length) l0 from .inr ⟨hM, rfl, rfl⟩)
  have HR2 := Aside0.mk hr2
  have HC2 := Aside0.mk hc2
  have HW0 := Aside0.mk hB.size
  have HBB := Aside0.mk hB
  have HNE := Aside0.mk hne
  clear hr2 hc2 hM hne hB
  have HB := Aside0.mk (Below.refl w.heap.size w)
  have H : (code_put.l0 k l0 a1 l2 (l2.length : Int) 0) = some r := h
  clear h
  have H' := Aside0.mk H
  clear H
  go_enter Try.func22, Try.ntmps22
  go_wp2
  go_loopg [0, 12] k (fun kq v0 v12 w' => ∃ (x0_1 : List Int) (x12_1 : Int), v12 = .int .i64 x12_1 ∧ Aside0 (code_put.l0 kq x0_1 a1 l2 (l2.length : Int) x12_1 = some r) ∧ Aside0 (kq ≤ k) ∧ Aside0 (MR g l0 w.heap.size w' v0 x0_1) ∧ Aside0 (Below w.heap.size w w'))
  case atStart => exact ⟨(l0), (0), (by first | rfl | (simp; done) | (simp [*]; done)), H', ⟨Nat.le_refl _⟩, ⟨by (with_reducible repeat (first | apply MR.alloc | apply MR.drewN | apply MR.drew)); exact HO0.out⟩, ⟨by repeat (first | (with_reducible first | exact HB.out | apply bA | apply bN | apply bD) | exact HB.out)⟩⟩
  case round =>
    clear H'
    try clear c2
    try clear p2
    obtain ⟨x0_1, x12_1, rfl, HA, HK1, HO_0, HB⟩ := hrel
    cases gk with
    | zero => exact absurd HA.out (by simp [code_put.l0])
    | succ k1 =>
      have H := HA.out
      clear HA
      simp only [code_put.l0] at H
      by_cases c4 : x12_1 < (l2.length : Int)
      · rw [if_pos c4] at H
        have c4b0 : decide (x12_1 < (l2.length : Int)) = true := decide_eq_true c4
        clear c4
        by_cases c5 : 0 ≤ x12_1
        · rw [if_pos c5] at H
          have c5b0 : decide (0 ≤ x12_1) = true := decide_eq_true c5
          clear c5
          by_cases c6 : x12_1 < (l2.length : Int)
          · rw [if_pos c6] at H
            have c6b0 : decide (x12_1 < (l2.length : Int)) = true := decide_eq_true c6
            clear c6
            have H' := Aside0.mk H
            clear H
            have p160 : 0 ≤ (x12_1 : Int) := of_decide_eq_true (by first | (with_reducible assumption) | assumption)
            have q160 : x12_1 < (l2.length : Int) := of_decide_eq_true (by first | (with_reducible assumption) | assumption)
            obtain ⟨ad160, e160, hx160_0⟩ := Kd.at_int (Kd.C_below HR2.out HB.out) x12_1 p160 q160
            cases e160
            replace p160 := eq_true p160
            replace q160 := eq_true q160
            go_wp2
            go_loopg [0, 17] k1 (fun kq v0 v17 w' => ∃ (x0_2 : List Int) (x17_2 : Int), v17 = .int .i64 x17_2 ∧ Aside0 (code_put.l1 kq x0_2 a1 (rd l2 x12_1) l2 (l2.length : Int) x12_1 a1 x17_2 = some r) ∧ Aside0 (kq ≤ k1) ∧ Aside0 (MR g l0 w.heap.size w' v0 x0_2) ∧ Aside0 (Below w.heap.size w w'))
            case atStart => exact ⟨(x0_1), (0), (by first | rfl | (simp; done) | (simp [*]; done)), H', ⟨Nat.le_refl _⟩, ⟨by (with_reducible repeat (first | apply MR.alloc | apply MR.drewN | apply MR.drew)); exact HO_0.out⟩, ⟨by repeat (first | (with_reducible first | exact HB.out | apply bA | apply bN | apply bD) | exact HB.out)⟩⟩
            case round =>
              clear H'
              try clear p1
              try clear q1
              try clear hx1
              try clear c2
              try clear p2
              try clear c4
              try clear c4b0
              try clear c5
              try clear c5b0
              try clear c6
              try clear c6b0
              try clear hx160_0
              try clear p160
              try clear p2
              try clear q160
              obtain ⟨x0_2, x17_2, rfl, HA, HK2, HO_0, HB⟩ := hrel
              cases gk with
              | zero => exact absurd HA.out (by simp [code_put.l1])
              | succ k2 =>
                have H := HA.out
                clear HA
                simp only [code_put.l1] at H
                by_cases c7 : x17_2 < a1
                · rw [if_pos c7] at H
                  have c7b0 : decide (x17_2 < a1) = true := decide_eq_true c7
                  clear c7
                  obtain ⟨ji8, hji8⟩ : ∃ j_ : Int, (wrap64 (8 * x17_2)) = j_ := ⟨_, rfl⟩
                  replace H : (if 0 ≤ (ji8) then (if x0_2.length < 140737488355328 then (code_put.l1 k2 (x0_2 ++ [(shr .i64 (rd l2 x12_1) (ji8)) % 256]) a1 (rd l2 x12_1) l2 (l2.length : Int) x12_1 a1 (wrap64 (x17_2 + 1))) else (none)) else (none)) = some r := by first | (rw [hji8] at H; exact H) | (simp only [hji8] at H ⊢; exact H)
                  have hji8w : (IntKind.i64.wrap (8 * x17_2)) = ji8 := (i64_w _).trans hji8
                  by_cases c9 : 0 ≤ (ji8)
                  · rw [if_pos c9] at H
                    have c9b0 := eq_true c9
                    have c9b1 : decide (0 ≤ (ji8)) = true := decide_eq_true c9
                    clear c9
                    obtain ⟨ji10, hji10⟩ : ∃ j_ : Int, (shr .i64 (rd l2 x12_1) (ji8)) = j_ := ⟨_, rfl⟩
                    replace H : (if x0_2.length < 140737488355328 then (code_put.l1 k2 (x0_2 ++ [(ji10) % 256]) a1 (rd l2 x12_1) l2 (l2.length : Int) x12_1 a1 (wrap64 (x17_2 + 1))) else (none)) = some r := by first | (rw [hji10] at H; exact H) | (simp only [hji10] at H ⊢; exact H)
                    have hji10_ : ((rd l2 x12_1) / 2 ^ min (ji8).toNat 64) = ji10 := hji10
                    have hji10z : (ji8) ≤ 64 → ((rd l2 x12_1) / 2 ^ (ji8).toNat) = ji10 := shr_small hji10
                    by_cases c11 : x0_2.length < 140737488355328
                    · rw [if_pos c11] at H
                      have LMc11 := Aside0.mk c11
                      clear c11
                      obtain ⟨y161, hy161⟩ : ∃ y_ : List Int, y_ = (x0_2 ++ [(ji10) % 256]) := ⟨_, rfl⟩
                      replace H : (code_put.l1 k2 y161 a1 (rd l2 x12_1) l2 (l2.length : Int) x12_1 a1 (wrap64 (x17_2 + 1))) = some r := by first | (rw [hy161]; with_reducible exact H) | (have H2_ := (Option.bind_some _ _).symm.trans H; rw [hy161]; with_reducible exact H2_) | (have H2_ := (Option.bind_some _ _).symm.trans H; with_reducible exact H2_) | with_reducible exact H | (rw [hy161]; exact H) | exact H
                      have Ny161 := Aside0.mk hy161
                      clear hy161
                      have H' := Aside0.mk H
                      clear H
                      go_wp2_with (first | ((with_reducible refine gate_builtin (b := .append) (xs := #[.tmp 20, .tmp 26]) rfl ?_); at_builtin; refine MR_append (g := g) (l0 := l0) (w0 := w) (base := w.heap.size) rfl (.tmp 20) (.tmp 26) rfl u0 x0_2 ((ji10) % 256) rfl rfl ?aO ?aB ?aS ?aL ?_; (case aB => exact (by repeat (first | (with_reducible first | exact HB.out | apply bA | apply bN | apply bD) | exact HB.out))); (case aO => exact (by (with_reducible repeat (first | apply MR.alloc | apply MR.drewN | apply MR.drew)); exact HO_0.out)); (case aS => exact (bZ (by repeat (first | (with_reducible first | exact HB.out | apply bA | apply bN | apply bD) | exact HB.out)))); (case aL => have := LMc11.out; omega); intro v162 w12 ho hb; rw [← Ny161.out] at ho; have n0_ := Aside0.mk (hb); have n2_ := Aside0.mk (ho); clear HB; clear HO_0; have HB := n0_; have HO163 := n2_; clear n0_ n2_; clear ho hb))
                      go_roundg k2
                      case measure => have := HK1.out; have := HK2.out; omega
                      case rel => exact ⟨(y161), (wrap64 (x17_2 + 1)), (by first | rfl | (simp; done) | (simp [*]; done)), H', ⟨by have := HK1.out; have := HK2.out; omega⟩, ⟨by (with_reducible repeat (first | apply MR.alloc | apply MR.drewN | apply MR.drew)); exact HO163.out⟩, ⟨by repeat (first | (with_reducible first | exact HB.out | apply bA | apply bN | apply bD) | exact HB.out)⟩⟩
                    · rw [if_neg c11] at H
                      exact absurd H (by simp)
                  · rw [if_neg c9] at H
                    exact absurd H (by simp)
                · rw [if_neg c7] at H
                  have c7b0 : decide (x17_2 < a1) = false := decide_eq_false c7
                  clear c7
                  have H' := Aside0.mk H
                  clear H
                  go_wp2
                  go_roundg k2
                  case measure => have := HK1.out; have := HK2.out; omega
                  case rel => exact ⟨(x0_2), (wrap64 (x12_1 + 1)), (by first | rfl | (simp; done) | (simp [*]; done)), H', ⟨by have := HK1.out; have := HK2.out; omega⟩, ⟨by (with_reducible repeat (first | apply MR.alloc | apply MR.drewN | apply MR.drew)); exact HO_0.out⟩, ⟨by repeat (first | (with_reducible first | exact HB.out | apply bA | apply bN | apply bD) | exact HB.out)⟩⟩
          · rw [if_neg c6] at H
            exact absurd H (by simp)
        · rw [if_neg c5] at H
          exact absurd H (by simp)
      · rw [if_neg c4] at H
        have c4b0 : decide (x12_1 < (l2.length : Int)) = false := decide_eq_false c4
        clear c4
        obtain rfl := Option.some.inj H
        go_wp2
        go_ret
        exact ⟨_, rfl, MR_out (by (with_reducible repeat (first | apply MR.alloc | apply MR.drewN | apply MR.drew)); exact HO_0.out) HNE.out HW0.out, below_then HBB.out HBB.out.size (by repeat (first | (with_reducible first | exact HB.out | apply bA | apply bN | apply bD) | exact HB.out)), by repeat (first | (with_reducible first | exact HB.out | apply bA | apply bN | apply bD) | exact HB.out)⟩
end Go.Proofs.Ytadbiogchgglpaa.Q
