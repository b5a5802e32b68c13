import Derived.Test.YtnhipgmphhndhaaVa
import Derived.Test.YtnhipgmphhndhaaQx12
namespace Go.Proofs.Ytnhipgmphhndhaa.Q
open Go.RowKit Go.Proofs.YtnhipgmphhndhaaW.PrintWords Go.Proofs.YtnhipgmphhndhaaW.PrintLast Go.Proofs.YtnhipgmphhndhaaW.PrintMore
set_option linter.unusedVariables false
set_option linter.unusedSectionVars false
set_option linter.unusedSimpArgs false
set_option maxRecDepth 100000
/-! ### the walk's rows: what has been reached, what is to be done -/
theorem row_form {α : Type} {d : Kd α} {e : Nat} {w : World} {base : Nat} {ok : Nat → Prop} {v : Value} {xs : List α} (h : d.R e w base ok v xs) (hn : 0 < xs.length) : ∃ b c, v = .slice (some ⟨b, 0, none⟩) xs.length c ∧ base ≤ b ∧ ok b ∧ ∃ cs, w.heap[b]? = some (.cells cs e (0, 0)) := by
  obtain ⟨inner, ho⟩ := Kd.R_own h
  obtain ⟨b, c, rfl, hb, _⟩ := ho.form hn
  exact ⟨b, c, rfl, hb, h.1 b (by simp [Value.ownBlock]), own_typed ho b (by simp [Value.ownBlock])⟩
theorem E69 {q : Nat} (h : q ∈ k69.E) : q = 89 := by simpa [k69, k89, Kd.iso, Kd.pair, Kd.int, Kd.scalar, Kd.slice] using h
theorem E89 {q : Nat} (h : q ∈ 89 :: k89.E) : q = 89 := by simpa [k89, Kd.iso, Kd.pair, Kd.int, Kd.scalar, Kd.slice] using h
/-- Targets that are handed back, as they are appended. -/
theorem more_reads {W : World} {b : Nat} {u v : Value} {xs ys : List S69} (hu : Kd.R k69 69 W b (fun _ => True) u ys) (hv : Kd.R k69 69 W b (fun _ => True) v xs) :
    ∃ A c, u = .slice A ys.length c ∧ ReadsRow (k69.M W b (fun k => some k ≠ v.ownBlock)) k69.sz W A ys.length ys := by
  obtain ⟨A, c, he, hl, hr⟩ := OwnRow.reads hu.2
  refine ⟨A, c, he, hr.imp_ (Below.refl _ _) (fun x cs hp => k69.M_mono (fun k hk => ?_) (k69.M_bound hp))⟩
  obtain ⟨_, _, _, q, hq, cells, hc⟩ := hk
  have hq := E69 hq
  subst hq
  intro he2
  obtain ⟨cs2, hc2⟩ := Kd.R_typed hv k he2.symm
  rw [hc] at hc2
  injection hc2 with hc2
  injection hc2 with _ hc2
  exact absurd hc2 (by decide)
/-- What has been reached at a place. -/
def PtrOf (W : World) (b : Nat) (pv : Value) : Option St → Prop
  | none => pv = .pointer none
  | some s => ∃ g v, pv = .pointer (some ⟨g, 0, none⟩) ∧ W.heap[g]? = some (.cells #[.int .i64 s.d, v] 52 (0, 0)) ∧ Kd.R k89 89 W b (fun _ => True) v s.m
theorem had_elem {W : World} {b gh n ch : Nat} {hs : List (Option St)} (h : Kd.R kP 49 W b (fun _ => True) (.slice (some ⟨gh, 0, none⟩) n ch) hs) (i : Int) (h0 : 0 ≤ i) (h1 : i < (hs.length : Int)) :
    ∃ pv, W.cell? ⟨gh, i.toNat, none⟩ = some pv ∧ W.frozen? ⟨gh, i.toNat, none⟩ = false ∧ PtrOf W b pv (hs.getD i.toNat none) ∧
      ∀ (g : Nat) (v : Value) (s : St), W.heap[g]? = some (.cells #[.int .i64 s.d, v] 52 (0, 0)) → b ≤ g → Kd.R k89 89 W b (fun _ => True) v s.m →
        Kd.R kP 49 (W.setCell ⟨gh, i.toNat, none⟩ (.pointer (some ⟨g, 0, none⟩))) b (fun _ => True) (.slice (some ⟨gh, 0, none⟩) n ch) (hs.set i.toNat (some s)) ∧ W.grownBy (W.setCell ⟨gh, i.toNat, none⟩ (.pointer (some ⟨g, 0, none⟩))) (some gh) := by
  have hn := (Kd.R_reads' h).1
  obtain ⟨c, hcl, hM, hcc, hfz⟩ := Kd.R_elem h none i h0 (by omega)
  obtain ⟨cs, hcs⟩ := Kd.R_typed h gh (by simp [Value.ownBlock])
  have e1 : i.toNat * kP.sz + 0 = i.toNat := by show i.toNat * 1 + 0 = _; omega
  obtain ⟨pv, rfl⟩ : ∃ pv, c = [pv] := by
    match c, hcl with
    | [pv], _ => exact ⟨pv, rfl⟩
  refine ⟨pv, by have := hcc 0 _ rfl; rwa [e1] at this, by have := hfz 0; rwa [e1] at this, ?_, fun g v s hg hb hv => ?_⟩
  · generalize hs.getD i.toNat none = o at hM
    cases o with
    | none =>
      have : [pv] = [Value.pointer none] := hM
      injection this
    | some s =>
      obtain ⟨g, v, he, _, _, hg, hR⟩ := hM
      injection he with he
      exact ⟨g, v, he, hg, Kd.R_mono hR (fun _ _ => trivial)⟩
  · have hR2 : Kd.R k89 89 W b (fun k => k ≠ gh) v s.m := Kd.R_mono (Kd.R_types hv hcs (fun q hq => by rw [E89 hq]; decide)) (fun k hk => hk.2)
    have hne : g ≠ gh := blk_ne hg hcs (by decide)
    have hs := Kd.R_seg h i h0 (by omega) hcl hcc (seg := [.pointer (some ⟨g, 0, none⟩)]) (j := 0) (by exact Nat.le_refl _) (x' := some s) (okp := fun k => k ≠ gh) (show kP.M W b (fun k => k ≠ gh) (some s) [.pointer (some ⟨g, 0, none⟩)] from ⟨g, v, rfl, hne, hb, hg, hR2⟩) (fun k hk => ⟨trivial, hk⟩)
    rw [e1] at hs
    exact hs
theorem l_elem {W : World} {b gl n cl : Nat} {xs : List S69} (h : Kd.R k69 69 W b (fun _ => True) (.slice (some ⟨gl, 0, none⟩) n cl) xs) (i : Int) (h0 : 0 ≤ i) (h1 : i < (xs.length : Int)) :
    ∃ v, W.cell? ⟨gl, i.toNat * 3, none⟩ = some (.int .i64 (rd_T69 xs i).f0) ∧ W.cell? ⟨gl, i.toNat * 3 + 1, none⟩ = some (.int .i64 (rd_T69 xs i).f1) ∧ W.cell? ⟨gl, i.toNat * 3 + 2, none⟩ = some v ∧ Kd.R k89 89 W b (fun _ => True) v (rd_T69 xs i).f2 := by
  have hn := (Kd.R_reads' h).1
  obtain ⟨c, hcl, hM, hcc, hfz⟩ := Kd.R_elem h z69 i h0 (by omega)
  obtain ⟨v2, rfl, hM1⟩ := k69_openM hM
  exact ⟨v2, hcc 0 _ rfl, hcc 1 _ rfl, hcc 2 _ rfl, Kd.R_mono hM1 (fun _ _ => trivial)⟩
theorem IsW.self {w0 W : World} {g : Nat} {fs : List S32} {xs : List Int} {ts : List ByteArray} {lets n : Int} {f : S32} (h : IsW w0 W g fs xs ts lets n f) : IsW W W g fs xs ts lets n f := by
  obtain ⟨hB, Af, cf, Ax, cx, At, ct, Ac, cc, hg, h1, h2, h3, h4⟩ := h
  have hb' : Below w0.heap.size w0 W := hB
  exact ⟨Below.refl _ _, Af, cf, Ax, cx, At, ct, Ac, cc, hg, h1, Kd.C_below h2 hb', h3, Kd.C_below h4 hb'⟩
/-- What a store into one of the walk's own rows leaves. -/
theorem IsW.grown {w0 W W1 : World} {g : Nat} {fs : List S32} {xs : List Int} {ts : List ByteArray} {lets n : Int} {f : S32} {row : Option Nat} (h : IsW w0 W g fs xs ts lets n f) (hg : W.grownBy W1 row) (hr : ∀ k, row = some k → w0.heap.size ≤ k ∧ k ≠ g) : IsW w0 W1 g fs xs ts lets n f := by
  obtain ⟨hB, Af, cf, Ax, cx, At, ct, Ac, cc, hgb, h1, h2, h3, h4⟩ := h
  refine ⟨hB.grown hg hB.size (fun k hk => (hr k hk).1), Af, cf, Ax, cx, At, ct, Ac, cc, blk_grown hgb hg (fun he => (hr g he.symm).2 rfl), h1, h2, h3, h4⟩
section
variable {w0 W : World} {g : Nat} {fs : List S32} {xs : List Int} {ts : List ByteArray} {lets n : Int} {f : S32}
theorem R_other {α : Type} {d : Kd α} {e b gh ty : Nat} {W W1 : World} {v : Value} {xs : List α} {cs : Array Value} (h : d.R e W b (fun _ => True) v xs) (hg : W.grownBy W1 (some gh)) (hcs : W.heap[gh]? = some (.cells cs ty (0, 0))) (hE : ∀ q ∈ e :: d.E, q ≠ ty) : d.R e W1 b (fun _ => True) v xs :=
  Kd.R_mono (Kd.R_grown (Kd.R_types h hcs hE) hg (fun k hk he => by injection he with he; exact hk.2 he)) (fun _ _ => trivial)
theorem same_l0 (a b : List S89) (hab : a.length = b.length) (ha : a.length ≤ 1000000) : ∀ (k i : Nat), i + k = a.length → ∃ r, Ev (fun q => verify_mark_44.l0 q a b (a.length : Int) (i : Int)) r ∧ (r = true ↔ a.drop i = b.drop i) := by
  intro k
  induction k with
  | zero =>
    intro i hi
    refine ⟨true, Ev.step (f := fun _ => some true) (fun q => by rw [verify_mark_44.l0, if_neg (by omega)]) (Ev.now _), ?_⟩
    rw [List.drop_eq_nil_of_le (by omega), List.drop_eq_nil_of_le (by omega)]
    simp
  | succ k ih =>
    intro i hi
    obtain ⟨r, h1, h2⟩ := ih (i + 1) (by omega)
    have hlt : i < a.length := by omega
    have hlt2 : i < b.length := by omega
    have e1 : rd_T89 a (i : Int) = a[i] := by unfold rd_T89; rw [Int.toNat_natCast, List.getD_eq_getElem?_getD, List.getElem?_eq_getElem hlt]; rfl
    have e2 : rd_T89 b (i : Int) = b[i] := by unfold rd_T89; rw [Int.toNat_natCast, List.getD_eq_getElem?_getD, List.getElem?_eq_getElem hlt2]; rfl
    have d1 : a.drop i = a[i] :: a.drop (i + 1) := List.drop_eq_getElem_cons hlt
    have d2 : b.drop i = b[i] :: b.drop (i + 1) := List.drop_eq_getElem_cons hlt2
    have e := wn ((i : Int) + 1) (i + 1) (by omega) (by omega)
    by_cases h : a[i] = b[i]
    · refine ⟨r, Ev.step (f := fun q => verify_mark_44.l0 q a b (a.length : Int) ((i + 1 : Nat) : Int)) (fun q => by
        rw [verify_mark_44.l0, if_pos (by omega), if_pos (by omega), if_pos (by omega), if_pos (by omega), e1, e2, h, if_neg (by simp), e]) h1, ?_⟩
      rw [d1, d2, h, h2, List.cons.injEq]
      exact ⟨fun h => ⟨rfl, h⟩, fun h => h.2⟩
    · refine ⟨false, Ev.step (f := fun _ => some false) (fun q => by
        rw [verify_mark_44.l0, if_pos (by omega), if_pos (by omega), if_pos (by omega), if_pos (by omega), e1, e2, if_pos ?_]
        cases ha : a[i]
        cases hb : b[i]
        rw [ha, hb] at h
        simp only [S89.mk.injEq, not_and] at h
        simp only [Bool.or_eq_true, Bool.not_eq_true', beq_eq_false_iff_ne, ne_eq]
        exact Classical.not_and_iff_not_or_not.1 (fun hh => h hh.1 hh.2)) (Ev.now _), ?_⟩
      rw [d1, d2, List.cons.injEq]
      simp [h]
theorem same_ev (a b : St) (ha : b.m.length ≤ 1000000) : ∃ r, Ev (fun q => verify_same.f q a.d a.m b.d b.m) r ∧ (r = true ↔ a = b) := by
  cases a with
  | mk ad am =>
  cases b with
  | mk bd bm =>
  unfold verify_same.f
  dsimp only at ha ⊢
  by_cases hd : ad = bd
  · by_cases hl : am.length = bm.length
    · obtain ⟨r, h1, h2⟩ := same_l0 am bm hl (by omega) am.length 0 (by omega)
      refine ⟨r, ?_, ?_⟩
      · refine Ev.congr (f := fun q => (verify_mark_44.l0 q am bm (am.length : Int) ((0 : Nat) : Int)).bind fun t183 => some t183) (fun q => by rw [if_pos hd]; unfold verify_mark_44.f; rw [if_pos (by omega)]; rfl) ?_
        exact Ev.bind h1 (Ev.now _)
      · rw [h2, List.drop_zero, List.drop_zero]
        simp [hd]
    · refine ⟨false, ?_, ?_⟩
      · exact Ev.congr (f := fun _ => some false) (fun q => by rw [if_pos hd]; unfold verify_mark_44.f; rw [if_neg (by omega)]; rfl) (Ev.now _)
      · simp only [Bool.false_eq_true, St.mk.injEq, false_iff, not_and]
        rintro _ rfl
        exact hl rfl
  · refine ⟨false, Ev.congr (f := fun _ => some false) (fun q => by rw [if_neg hd]) (Ev.now _), ?_⟩
    simp [hd]
/-- A target's numbers are small. -/
def SmT (q : Tg) : Prop := q.1 ≤ 65536 ∧ 0 ≤ q.2.d ∧ q.2.d ≤ 61 ∧ ∀ x ∈ q.2.m, 0 ≤ x.f1 ∧ x.f1 ≤ 60
/-- What the loop holds. -/
structure WInv (N : Nx) (W0 wr : World) (g gh ch : Nat) (fs : List S32) (xs : List Int) (ts : List ByteArray) (lets n : Int) (f : S32) (hs : List (Option St)) (l : List Tg) (v : Value) : Prop where
  jw : IsW W0 wr g fs xs ts lets n f
  jh : Kd.R kP 49 wr W0.heap.size (fun _ => True) (.slice (some ⟨gh, 0, none⟩) f.f3.length ch) hs
  jl : Kd.R k69 69 wr W0.heap.size (fun _ => True) v (l.map ofT)
  ji : Inv N f.f3.length f.f2 hs l
  js : ∀ q ∈ l, SmT q
/-- What the walk hands back. -/
def WalkOut (N : Nx) (f : S32) (W w1 : World) (u : Value) (b : Bool) : Prop :=
  (b = false ∧ u = .slice none 0 0 ∧ ¬ Good N f.f3.length f.f2) ∨ (b = true ∧ ∃ hs, Kd.R kP 49 w1 W.heap.size (fun _ => True) u hs ∧ hs.length = f.f3.length ∧ Good N f.f3.length f.f2 ∧ deps N f.f3.length f.f2 = hs.map dOf)
def WOut (N : Nx) (f : S32) (W w1 : World) (e : Ending) : Prop := ∃ u b, e = .returned (.tuple #[u, .bool b]) ∧ WalkOut N f W w1 u b
set_option maxHeartbeats 4000000 in
theorem v_walk (hI0 : IsW w0 W g fs xs ts lets n f) (hf : OkBody f) : Calls Try.prog 17 #[.pointer (some ⟨g, 0, none⟩)] W fun e w' => Below W.heap.size W w' ∧ WOut (nx fs xs.length ts.length lets n f) f W w' e := by
  have hI := hI0.self
  clear hI0
  have hu45 := Try.underlying45
  have hu32 := Try.underlying32
  have hu52 := Try.underlying52
  have hu69 := Try.underlying69
  have hu30 := Try.underlying30
  have hu46 := Try.underlying46
  have HI := Aside0.mk hI
  obtain ⟨hB0, Af, cf, Ax, cx, At, ct, Ac, cc, hg, h1, h2, h3, h4⟩ := hI
  have c8 := (blk_cell hg 8).trans rfl
  have HG := Aside0.mk hg
  have HF := Aside0.mk hf
  clear hB0 hg h1 h2 h3 h4 hf
  generalize hN : nx fs xs.length ts.length lets n f = N
  go_enter Try.func17, Try.ntmps17
  go_wp2_with (first
    | ((with_reducible refine gate_dst (N := 16) rfl ?_); refine Kd.R_make kP (w0 := W) W.heap.size 49 rfl rfl 46 _ _ rfl (f.f3.length : Int) rfl rfl Try.underlying46 (.pointer none) 8 info49 rfl (by decide) (by decide) none (ok := fun _ => True) (okp := fun _ => True) rfl (fun _ _ => trivial) trivial (by omega) (by have := HF.out.2.2.2.2.2.2.2.1; omega) (Below.refl _ _) (Nat.le_refl _) ?_; intro vh w1 hr hb hgr hat; rw [Int.toNat_natCast] at hr; obtain ⟨gh, ch, rfl, hgh, _, csh, hch⟩ := row_form hr (by rw [List.length_replicate]; have := HF.out.2.2.2.2.2.2.1; omega); rw [List.length_replicate] at hr; have HH := Aside0.mk hr; have HB := Aside0.mk hb; have HI1 := Aside0.mk (HI.out.grown hgr (fun k hk => by cases hk)); clear HI; have HI := HI1; clear HI1 hr hb hgr hat hgh hch))
  have hlm := blk_lt HG.out
  have HL0 := Aside0.mk (R69_one rfl HB.out.size (ofT (0, s0)) (Kd.R_nil k89 89 w1 W.heap.size (fun _ => True)))
  go_loopg [5] (3 * f.f3.length + 1) (fun kq v5 wr => ∃ hs l, Aside0 (3 * (f.f3.length - cnt hs) + l.length ≤ kq ∧ kq ≤ 1201) ∧ Aside0 (WInv N W wr g gh ch fs xs ts lets n f hs l v5))
  case atStart =>
    refine ⟨List.replicate f.f3.length none, [(0, s0)], ⟨by have := HF.out.2.2.2.2.2.2.2.1; constructor <;> simp <;> omega⟩, ⟨HI.out.alloc _, Kd.R_alloc HH.out _, HL0.out, Inv.init _ _, ?_⟩⟩
    intro q hq
    rw [List.mem_singleton.1 hq]
    exact ⟨by decide, by decide, by decide, fun x hx => absurd hx (by simp [s0])⟩
  case round =>
    obtain ⟨hs, l, HK, HW⟩ := hrel
    rcases List.eq_nil_or_concat l with rfl | ⟨l0, t, rfl⟩
    · obtain ⟨A, c, he, hc, hC⟩ := Kd.R_reads HW.out.jl
      have he2 : u5 = .slice A 0 c := he
      subst he2
      clear he hC hc
      go_wp2
      go_ret2
      obtain ⟨g1, g2⟩ := HW.out.ji.done
      exact ⟨HW.out.jw.1, _, true, rfl, .inr ⟨rfl, hs, HW.out.jh, HW.out.ji.len, g1, g2⟩⟩
    · have hlen : ((l0.concat t).map ofT).length = l0.length + 1 := by simp
      obtain ⟨gl, cl, he, hgl, _, csl, hcsl⟩ := row_form HW.out.jl (by omega)
      obtain ⟨m, hm⟩ : ∃ m, m = ((l0.concat t).map ofT).length := ⟨_, rfl⟩
      rw [← hm] at he hlen
      have hJ := HW.out.jl
      subst he
      obtain ⟨v, x0, x1, x2, hv⟩ := l_elem hJ (l0.length : Int) (by omega) (by omega)
      have hrd : rd_T69 ((l0.concat t).map ofT) (l0.length : Int) = ofT t := by
        unfold rd_T69
        rw [Int.toNat_natCast, List.concat_eq_append, List.map_append, List.getD_eq_getElem?_getD, List.getElem?_append_right (by simp)]
        simp
      rw [hrd] at x0 x1 hv
      rw [Int.toNat_natCast] at x0 x1 x2
      have hT := Kd.R_take (m := l0.length) hJ (by omega)
      have hmt : ((l0.concat t).map ofT).take l0.length = l0.map ofT := by
        rw [List.concat_eq_append, List.map_append, List.take_append_of_le_length (by simp), List.take_of_length_le (by simp)]
      rw [hmt] at hT
      obtain ⟨Am, cm, rfl, hcm, hCm⟩ := Kd.R_reads hv
      replace x0 : wr.cell? ⟨gl, l0.length * 3, none⟩ = some (.int .i64 t.1) := x0
      replace x1 : wr.cell? ⟨gl, l0.length * 3 + 1, none⟩ = some (.int .i64 t.2.d) := x1
      replace x2 : wr.cell? ⟨gl, l0.length * 3 + 2, none⟩ = some (.slice Am t.2.m.length cm) := x2
      replace hv : Kd.R k89 89 wr W.heap.size (fun _ => True) (.slice Am t.2.m.length cm) t.2.m := hv
      have HT := Aside0.mk hT
      have HV := Aside0.mk hv
      have hw : IntKind.i64.wrap ((m : Int) - 1) = (l0.length : Int) := by rw [i64_w]; exact (w64 _ (by omega) (by have := HK.out; simp at this; omega)).trans (by omega)
      have p0 : decide ((m : Int) > 0) = true := decide_eq_true (by omega)
      have p0' : decide (0 < m) = true := decide_eq_true (by omega)
      have p1 : (0 ≤ (l0.length : Int)) = True := eq_true (by omega)
      have p2 : ((l0.length : Int) < (m : Int)) = True := eq_true (by omega)
      have p3 : (l0.length ≤ cl) = True := eq_true (by have := (Kd.R_reads' hJ).2.1; omega)
      have HM := Aside0.mk hm
      have HLEN := Aside0.mk hlen
      clear hJ hT hv hmt hm hlen hrd hgl hcsl hcm hCm
      go_wp2
      have HW5 := Aside0.mk (HW.out.jw.alloc (.cells #[.int .i64 t.1, .int .i64 t.2.d, .slice Am t.2.m.length cm] 69))
      have HH5 := Aside0.mk (Kd.R_alloc HW.out.jh (.cells #[.int .i64 t.1, .int .i64 t.2.d, .slice Am t.2.m.length cm] 69))
      have HT5 := Aside0.mk (Kd.R_alloc HT.out (.cells #[.int .i64 t.1, .int .i64 t.2.d, .slice Am t.2.m.length cm] 69))
      have HV5 := Aside0.mk (Kd.R_alloc HV.out (.cells #[.int .i64 t.1, .int .i64 t.2.d, .slice Am t.2.m.length cm] 69))
      have BT5 := Aside0.mk (blk_new wr (.cells #[.int .i64 t.1, .int .i64 t.2.d, .slice Am t.2.m.length cm] 69))
      have HI5 := Aside0.mk HW.out.ji
      have HS5 := Aside0.mk HW.out.js
      generalize hgt : wr.heap.size = gt at *
      clear x0 x1 x2 HW HT HV
      generalize wr.alloc (.cells #[.int .i64 t.1, .int .i64 t.2.d, .slice Am t.2.m.length cm] 69) = w5 at HW5 HH5 HT5 HV5 BT5 ⊢
      have x0 := (blk_cell BT5.out 0).trans rfl
      have x1 := (blk_cell BT5.out 1).trans rfl
      have x2 := (blk_cell BT5.out 2).trans rfl
      obtain ⟨_, Af', cf', Ax', cx', At', ct', Ac', cc', hgw, _, _, _, _⟩ := HW5.out
      have y7 := (blk_cell hgw 7).trans rfl
      clear hgw
      by_cases hb1 : (f.f3.length : Int) ≤ t.1
      · have d1 : decide (t.1 ≥ (f.f3.length : Int)) = true := decide_eq_true hb1
        have d1' : decide ((f.f3.length : Int) ≤ t.1) = true := decide_eq_true hb1
        go_quiet (fail)
        go_wp2
        go_ret2
        exact ⟨pw_below_drewN HW5.out.1 _, .slice none 0 0, false, rfl, .inl ⟨rfl, rfl, by have h := HI5.out; rw [List.concat_eq_append] at h; exact h.bad (.inl hb1)⟩⟩
      · have d1 : decide (t.1 ≥ (f.f3.length : Int)) = false := decide_eq_false hb1
        have d1' : decide ((f.f3.length : Int) ≤ t.1) = false := decide_eq_false hb1
        by_cases hb2 : f.f2 < t.2.d
        · have d2 : decide (t.2.d > f.f2) = true := decide_eq_true hb2
          have d2' : decide (f.f2 < t.2.d) = true := decide_eq_true hb2
          go_quiet (fail)
          go_wp2
          go_ret2
          exact ⟨pw_below_drewN HW5.out.1 _, .slice none 0 0, false, rfl, .inl ⟨rfl, rfl, by have h := HI5.out; rw [List.concat_eq_append] at h; exact h.bad (.inr hb2)⟩⟩
        · have d2 : decide (t.2.d > f.f2) = false := decide_eq_false hb2
          have d2' : decide (f.f2 < t.2.d) = false := decide_eq_false hb2
          go_quiet (fail)
          have HW6 := Aside0.mk (HW5.out.below (pw_below_drewN (Below.refl _ _) nq))
          have HH6 := Aside0.mk (Kd.R_drewN HH5.out nq)
          have HT6 := Aside0.mk (Kd.R_drewN HT5.out nq)
          have HV6 := Aside0.mk (Kd.R_drewN HV5.out nq)
          have BT6 := Aside0.mk (blk_drewN BT5.out nq)
          clear HW5 HH5 HT5 HV5 BT5 x0 x1 x2 y7
          generalize w5.drewN nq = w6 at HW6 HH6 HT6 HV6 BT6 ⊢
          have hat0 := (HI5.out.work t (by simp)).2.1
          obtain ⟨pv, e0, e1, e2, e3⟩ := had_elem HH6.out t.1 hat0 (by rw [HI5.out.len]; omega)
          have z0 := (blk_cell BT6.out 0).trans rfl
          have z1 := (blk_cell BT6.out 1).trans rfl
          have z2 := (blk_cell BT6.out 2).trans rfl
          have q1 : (0 ≤ t.1) = True := eq_true hat0
          have q2 : (t.1 < (f.f3.length : Int)) = True := eq_true (by omega)
          have HE3 := Aside0.mk e3
          have B1 := Aside0.mk hb1
          have B2 := Aside0.mk hb2
          have HF0 := Aside0.mk e1
          clear e3 hb1 hb2 e1
          cases hx : hs.getD t.1.toNat none with
          | none =>
            rw [hx] at e2
            have e2' : pv = .pointer none := e2
            subst e2'
            clear e2
            have HH7 := Kd.R_alloc HH6.out (.cells #[.int .i64 t.2.d, .slice Am t.2.m.length cm] 52)
            have BS7 := blk_new w6 (.cells #[.int .i64 t.2.d, .slice Am t.2.m.length cm] 52)
            have HV7 := Kd.R_alloc HV6.out (.cells #[.int .i64 t.2.d, .slice Am t.2.m.length cm] 52)
            have BT7 := blk_alloc BT6.out (.cells #[.int .i64 t.2.d, .slice Am t.2.m.length cm] 52)
            have HT7 := Kd.R_alloc HT6.out (.cells #[.int .i64 t.2.d, .slice Am t.2.m.length cm] 52)
            have HW7 := HW6.out.alloc (.cells #[.int .i64 t.2.d, .slice Am t.2.m.length cm] 52)
            obtain ⟨pv, f0, f1, f2, f3⟩ := had_elem HH7 t.1 hat0 (by rw [HI5.out.len]; have := B1.out; omega)
            rw [hx] at f2
            have f2' : pv = .pointer none := f2
            subst f2'
            obtain ⟨hh8, hg8⟩ := f3 w6.heap.size (.slice Am t.2.m.length cm) t.2 BS7 HW6.out.1.size HV7
            obtain ⟨csh8, hcsh8⟩ := Kd.R_typed HH7 gh (by simp [Value.ownBlock])
            have hne1 : gt ≠ gh := blk_ne BT7 hcsh8 (by decide)
            have hne2 : w6.heap.size ≠ gh := blk_ne BS7 hcsh8 (by decide)
            have hgh8 : W.heap.size ≤ gh := Kd.R_base HH7 gh (by simp [Value.ownBlock])
            have hgne : gh ≠ g := by
              obtain ⟨_, _, _, _, _, _, _, _, _, hgw, _⟩ := HW7
              exact (blk_ne hgw hcsh8 (by decide)).symm
            have HH8 := Aside0.mk hh8
            have HV8 := Aside0.mk (R_other HV7 hg8 hcsh8 (fun q hq => by rw [E89 hq]; decide))
            have HT8 := Aside0.mk (R_other HT7 hg8 hcsh8 (fun q hq => by rcases List.mem_cons.1 hq with rfl | hq; decide; rw [E69 hq]; decide))
            have HW8 := Aside0.mk (HW7.grown hg8 (fun k hk => by injection hk with hk; subst hk; exact ⟨hgh8, hgne⟩))
            have BT8 := Aside0.mk (blk_grown BT7 hg8 (fun he => hne1 (by injection he)))
            have k0 := (blk_cell BT8.out 0).trans rfl
            have k00 := (blk_cell BT7 0).trans rfl
            have k1 := (blk_cell (blk_grown BS7 hg8 (fun he => hne2 (by injection he))) 0).trans rfl
            have k2 := (blk_cell (blk_grown BS7 hg8 (fun he => hne2 (by injection he))) 1).trans rfl
            clear HH7 BS7 HV7 BT7 HT7 HW7 f2 f3 hh8 hg8 hcsh8 hgh8 hgne hne1 hne2
            go_wp2_with fail
            have hwork := HI5.out.work t (by simp)
            have hsm := HS5.out t (by simp)
            have hcnt := cnt_le hs
            have hlen5 := HI5.out.len
            have hf2 := HF.out
            have hlt : t.1 < (f.f3.length : Int) := by have := B1.out; omega
            have hok : OkIns (rd_T37 f.f3 t.1) := hf2.2.2.2.2.2.2.2.2 _ (rd_37_mem t.1 hat0 hlt)
            have hN1 : N t.1 t.2 = nx1 fs xs.length ts.length lets n f (rd_T37 f.f3 t.1) t.1 t.2 := by rw [← hN]; exact nx_at hat0 hlt
            have hokS : OkS t.2 := ⟨hsm.2.1, by have := B2.out; have := hf2.2.2.2.2.2.1; omega, hsm.2.2.2⟩
            have hnb : ∀ l, nx1 fs xs.length ts.length lets n f (rd_T37 f.f3 t.1) t.1 t.2 = some l → l.length ≤ 2 ∧ ∀ q ∈ l, OkT t.2 q := fun l h => nx1_ok hok ⟨hat0, by have := hf2.2.2.2.2.2.2.2.1; omega⟩ hokS h
            refine (v_next (w0 := W) HW8.out ⟨hat0, hlt⟩ hf2.2.2.2.2.2.2.2.1 hok (s := t.2) hokS (by have := hwork.2.2; have := hf2.2.2.2.2.2.2.2.1; omega) HV8.out).mono ?_
            rintro e w9 ⟨hb, u, b, rfl, ho⟩
            have HH9 := Aside0.mk (Kd.R_below HH8.out hb)
            have HT9 := Aside0.mk (Kd.R_below HT8.out hb)
            have HW9 := Aside0.mk (HW8.out.below hb)
            have hx' : hs[t.1.toNat]? = some none := by
              have h1 : t.1.toNat < hs.length := by rw [hlen5]; omega
              rw [List.getD_eq_getElem?_getD, List.getElem?_eq_getElem h1] at hx
              rw [List.getElem?_eq_getElem h1]
              exact congrArg some hx
            have HX := Aside0.mk hx'
            have HNB := Aside0.mk hnb
            have HN1 := Aside0.mk hN1
            have HLT := Aside0.mk hlt
            have HFEW := Aside0.mk (show t.2.m.length ≤ 400 from by have := hwork.2.2; have := hf2.2.2.2.2.2.2.2.1; omega)
            have HF2 := Aside0.mk hf2
            clear HH8 HT8 HW8 HV8 BT8 k0 k00 k1 k2 hb f0 f1 e0 z0 z1 z2 HE3 HF0 hwork hsm hcnt hlen5 hf2 hok hokS hx hx' hnb hN1 hlt
            generalize nx1 fs xs.length ts.length lets n f (rd_T37 f.f3 t.1) t.1 t.2 = NX at ho HNB HN1
            cases NX with
            | none =>
              obtain rfl : b = false := ho
              go_wp2
              go_ret2
              exact ⟨HW9.out.1, ⟨.slice none 0 0, false, rfl, .inl ⟨rfl, rfl, by have h := HI5.out; rw [List.concat_eq_append] at h; exact h.none_ HN1.out⟩⟩⟩
            | some l' =>
              obtain ⟨rfl, hR⟩ := ho
              obtain ⟨A', c', rfl, hrr⟩ := more_reads hR HT9.out
              rw [List.length_map] at hrr
              have HRR := Aside0.mk hrr
              have HL2 := Aside0.mk (HNB.out l' rfl)
              clear hR hrr HNB
              go_wp2_with (first
                | ((with_reducible refine gate_builtin (b := .append) (xs := #[.tmp 74, .tmp 75]) rfl ?_); at_builtin; (refine Kd.R_append_rows k69 (w0 := W) W.heap.size rfl (.tmp 74) (.tmp 75) 70 69 (.agg #[.int .i64 0, .int .i64 0, .slice none 0 0]) 40 rfl Try.underlying70 info69 rfl (by decide) (by omega) (.slice (some ⟨gl, 0, none⟩) l0.length cl) (l0.map ofT) (l'.map ofT) _ _ _ (fun _ => True) _ rfl rfl HT9.out HRR.out (fun _ _ h => h) (fun _ h => ⟨trivial, h⟩) (fun _ _ => trivial) HW9.out.1 HW9.out.1.size (by rw [List.length_map]; have h1 := HK.out; have h2 := HL2.out.1; rw [List.concat_eq_append, List.length_append] at h1; simp only [List.length_singleton] at h1; omega) ?_); intro v1 w10 ho hb hg hat; rw [← List.map_append] at ho; have HT10 := Aside0.mk ho; obtain ⟨cs9, hcs9⟩ := Kd.R_typed HT9.out gl (by simp [Value.ownBlock]); have HH10 := Aside0.mk (R_other HH9.out hg hcs9 (fun q hq => by rcases List.mem_cons.1 hq with rfl | hq; decide; rcases List.mem_cons.1 hq with rfl | hq; decide; rw [List.mem_singleton.1 hq]; decide)); have HW10 := Aside0.mk (HW9.out.grown hg (fun k hk => by injection hk with hk; subst hk; exact ⟨Kd.R_base HT9.out gl (by simp [Value.ownBlock]), by obtain ⟨_, _, _, _, _, _, _, _, _, hgw, _⟩ := HW9.out; exact (blk_ne hgw hcs9 (by decide)).symm⟩)); clear ho hb hg hat hcs9))
              have hcs := cnt_set hs t.1.toNat t.2 HX.out
              have hcl := cnt_le (hs.set t.1.toNat (some t.2))
              go_roundg (3 * (f.f3.length - cnt (hs.set t.1.toNat (some t.2))) + (l0 ++ l').length)
              case measure =>
                have h1 := HK.out
                have h2 := HL2.out.1
                have h3 := HI5.out.len
                rw [List.concat_eq_append, List.length_append] at h1
                rw [List.length_set] at hcl
                rw [List.length_append]
                simp only [List.length_singleton] at h1
                omega
              case rel =>
                have hinv : Inv N f.f3.length f.f2 (hs.set t.1.toNat (some t.2)) (l0 ++ l') := by
                  have h := HI5.out
                  rw [List.concat_eq_append] at h
                  exact h.set_ HX.out (by have := B2.out; omega) HN1.out (fun q hq => ⟨(HL2.out.2 q hq).1, (HL2.out.2 q hq).2.2.1⟩)
                refine ⟨hs.set t.1.toNat (some t.2), l0 ++ l', ⟨⟨Nat.le_refl _, ?_⟩⟩, ⟨HW10.out, HH10.out, HT10.out, hinv, fun q hq => ?_⟩⟩
                · have h1 := HK.out
                  have h2 := HL2.out.1
                  have h3 := HI5.out.len
                  rw [List.concat_eq_append, List.length_append] at h1
                  rw [List.length_set] at hcl
                  rw [List.length_append]
                  simp only [List.length_singleton] at h1
                  omega
                · rcases List.mem_append.1 hq with hq | hq
                  · exact HS5.out q (by simp [hq])
                  · obtain ⟨a1, a2, a3, a4, a5, a6⟩ := HL2.out.2 q hq
                    exact ⟨a2, a4, a5, a6⟩
          | some s' =>
            rw [hx] at e2
            obtain ⟨gs, vs, rfl, hgs, hvs⟩ := e2
            obtain ⟨As, cs', rfl, hcs', hCs⟩ := Kd.R_reads hvs
            obtain ⟨Am', cm', he', hcm', hCm'⟩ := Kd.R_reads HV6.out
            injection he' with he1 _ he3
            subst he1 he3
            have hfew : t.2.m.length ≤ 400 := by have := (HI5.out.work t (by simp)).2.2; have := cnt_le hs; have := HI5.out.len; have := HF.out.2.2.2.2.2.2.2.1; omega
            obtain ⟨r, hev, hr⟩ := same_ev s' t.2 (by omega)
            obtain ⟨kk, hkk⟩ := hev.rounds
            have HKK := Aside0.mk hkk
            have HC1 := Aside0.mk hCs
            have HL1 := Aside0.mk hcs'
            have HC2 := Aside0.mk hCm'
            have HL2 := Aside0.mk hcm'
            have HGS := Aside0.mk hgs
            have HRR := Aside0.mk hr
            have HX := Aside0.mk (show hs[t.1.toNat]? = some (some s') from by
              have h1 : t.1.toNat < hs.length := by have := HI5.out.len; have := B1.out; omega
              rw [List.getD_eq_getElem?_getD, List.getElem?_eq_getElem h1] at hx
              rw [List.getElem?_eq_getElem h1]
              exact congrArg some hx)
            have g0 := (blk_cell hgs 0).trans rfl
            have g1 := (blk_cell hgs 1).trans rfl
            obtain ⟨csh6, hcsh6⟩ := Kd.R_typed HH6.out gh (by simp [Value.ownBlock])
            have HE0 := Aside0.mk e0
            clear hgs hvs hcs' hCs hcm' hCm' hfew hev hkk hr HE3 HF0 hx hcsh6
            go_wp2
            go_region_held3 (fun w' => w'.cell? ⟨gh, t.1.toNat, none⟩ = some (.pointer (some ⟨gs, 0, none⟩)) ∧ w'.cell? ⟨gs, 0, none⟩ = some (.int .i64 s'.d) ∧ w'.cell? ⟨gs, 1, none⟩ = some (.slice As s'.m.length cs') ∧ w'.cell? ⟨gt, 0, none⟩ = some (.int .i64 t.1) ∧ w'.cell? ⟨gt, 1, none⟩ = some (.int .i64 t.2.d) ∧ w'.cell? ⟨gt, 2, none⟩ = some (.slice Am t.2.m.length cm)) (go_keep) (first
              | (go_at_call 30; (with_reducible refine (verify_same.calls kk s'.d As cs' s'.m t.2.d Am cm t.2.m r _ (Kd.C_drew HC1.out) HL1.out (Kd.C_drew HC2.out) HL2.out HKK.out).mono ?_); rintro e w8 ⟨rfl, hb⟩; have HW8 := Aside0.mk (HW6.out.drew.below hb); have HH8 := Aside0.mk (Kd.R_below (Kd.R_drew HH6.out) hb); have HT8 := Aside0.mk (Kd.R_below (Kd.R_drew HT6.out) hb); have r0 := (hb.cell (World.block_lt_of_cell? _ _ (show w6.drew.cell? ⟨gh, t.1.toNat, none⟩ = _ from HE0.out))).trans HE0.out; have r1 := (blk_cell (blk_below (blk_drew HGS.out) hb) 0).trans rfl; have r2 := (blk_cell (blk_below (blk_drew HGS.out) hb) 1).trans rfl; have r3 := (blk_cell (blk_below (blk_drew BT6.out) hb) 0).trans rfl; have r4 := (blk_cell (blk_below (blk_drew BT6.out) hb) 1).trans rfl; have r5 := (blk_cell (blk_below (blk_drew BT6.out) hb) 2).trans rfl; clear hb))
            cases r with
            | false =>
              go_wp2
              go_ret2
              exact ⟨HW8.out.1, ⟨.slice none 0 0, false, rfl, .inl ⟨rfl, rfl, by have h := HI5.out; rw [List.concat_eq_append] at h; exact h.diff HX.out (fun he => by have h9 := HRR.out.2 he; simp at h9)⟩⟩⟩
            | true =>
              go_wp2
              go_roundg (3 * (f.f3.length - cnt hs) + l0.length)
              case measure =>
                have h1 := HK.out
                rw [List.concat_eq_append, List.length_append] at h1
                simp only [List.length_singleton] at h1
                omega
              case rel =>
                have hinv : Inv N f.f3.length f.f2 hs l0 := by
                  have h := HI5.out
                  rw [List.concat_eq_append] at h
                  have he := HRR.out.1 (by simp)
                  exact h.same (by rw [← he]; exact HX.out)
                refine ⟨hs, l0, ⟨⟨Nat.le_refl _, ?_⟩⟩, ⟨HW8.out, HH8.out, HT8.out, hinv, fun q hq => HS5.out q (by simp [hq])⟩⟩
                have h1 := HK.out
                rw [List.concat_eq_append, List.length_append] at h1
                simp only [List.length_singleton] at h1
                omega
end
end Go.Proofs.Ytnhipgmphhndhaa.Q
