import Derived.Test.YtnhipgmphhndhaaV3
import Derived.Maps.OwnOps
import Derived.Maps.Views
import Derived.Test.YtnhipgmphhndhaaQx10
import Derived.Test.YtnhipgmphhndhaaQx11
namespace Go.Proofs.Ytnhipgmphhndhaa.Q
open Go.RowKit Go.Proofs.YtnhipgmphhndhaaW.PrintWords Go.Proofs.YtnhipgmphhndhaaW.PrintLast Go.Proofs.YtnhipgmphhndhaaW.PrintMore
set_option linter.unusedVariables false
set_option linter.unusedSectionVars false
set_option linter.unusedSimpArgs false
/-! ### the walker, and what a rule asks of it -/
/-- The walker at block g: a code (its functions fs, constants xs, texts ts, lets), the function n, its body f. -/
def IsW (w0 W : World) (g : Nat) (fs : List S32) (xs : List Int) (ts : List ByteArray) (lets n : Int) (f : S32) : Prop :=
  Below w0.heap.size w0 W ∧ ∃ Af cf Ax cx At ct Ac cc, W.heap[g]? = some (.cells #[.slice Af fs.length cf, .slice Ax xs.length cx, .slice At ts.length ct, .int .i64 lets, .int .i64 n, .int .i64 f.f0, .int .i64 f.f1, .int .i64 f.f2, .slice Ac f.f3.length cc] 45 (0, 0)) ∧
    fs.length ≤ cf ∧ k32.C w0 Af fs.length fs ∧ f.f3.length ≤ cc ∧ k37.C w0 Ac f.f3.length f.f3
section
variable {w0 W W1 : World} {g : Nat} {fs : List S32} {xs : List Int} {ts : List ByteArray} {lets n : Int} {f : S32}
theorem IsW.below (h : IsW w0 W g fs xs ts lets n f) (hb : Below W.heap.size W W1) : IsW w0 W1 g fs xs ts lets n f := by
  obtain ⟨hB, Af, cf, Ax, cx, At, ct, Ac, cc, hg, h1, h2, h3, h4⟩ := h
  exact ⟨below_step hB hb, Af, cf, Ax, cx, At, ct, Ac, cc, blk_below hg hb, h1, h2, h3, h4⟩
theorem IsW.drew (h : IsW w0 W g fs xs ts lets n f) : IsW w0 W.drew g fs xs ts lets n f := h.below (below_drew (Below.refl _ _))
theorem IsW.alloc (h : IsW w0 W g fs xs ts lets n f) (o : Obj) : IsW w0 (W.alloc o) g fs xs ts lets n f := h.below (below_alloc (Below.refl _ _) o)
/-- What a rule's A is below. -/
def mostK (fn : Nat) (fs : List S32) (xs : List Int) (ts : List ByteArray) (lets : Int) (f : S32) : Int :=
  if fn = 50 then f.f1 else if fn = 51 then lets else if fn = 53 then (xs.length : Int) else if fn = 54 then (ts.length : Int) else if fn = 55 then f.f0 else if fn = 60 then 4 else 7
set_option maxHeartbeats 1000000 in
theorem most_50 (h : IsW w0 W g fs xs ts lets n f) : Calls Try.prog 50 #[.pointer (some ⟨g, 0, none⟩)] W fun e w' => e = .returned (.int .i64 f.f1) ∧ Below W.heap.size W w' := by
  obtain ⟨hB, Af, cf, Ax, cx, At, ct, Ac, cc, hg, h1, h2, h3, h4⟩ := h
  have hu45 := Try.underlying45
  have hu32 := Try.underlying32
  have c6 := (blk_cell hg 6).trans rfl
  clear hB h2 h4
  go_enter Try.func50, Try.ntmps50
  go_wp2
  go_ret
  exact ⟨rfl, Below.refl _ _⟩
set_option maxHeartbeats 1000000 in
theorem most_51 (h : IsW w0 W g fs xs ts lets n f) : Calls Try.prog 51 #[.pointer (some ⟨g, 0, none⟩)] W fun e w' => e = .returned (.int .i64 lets) ∧ Below W.heap.size W w' := by
  obtain ⟨hB, Af, cf, Ax, cx, At, ct, Ac, cc, hg, h1, h2, h3, h4⟩ := h
  have hu45 := Try.underlying45
  have hu26 := Try.underlying26
  have c3 := (blk_cell hg 3).trans rfl
  clear hB h2 h4
  go_enter Try.func51, Try.ntmps51
  go_wp2
  go_ret
  exact ⟨rfl, Below.refl _ _⟩
set_option maxHeartbeats 1000000 in
theorem most_53 (h : IsW w0 W g fs xs ts lets n f) : Calls Try.prog 53 #[.pointer (some ⟨g, 0, none⟩)] W fun e w' => e = .returned (.int .i64 (xs.length : Int)) ∧ Below W.heap.size W w' := by
  obtain ⟨hB, Af, cf, Ax, cx, At, ct, Ac, cc, hg, h1, h2, h3, h4⟩ := h
  have hu45 := Try.underlying45
  have hu26 := Try.underlying26
  have c1 := (blk_cell hg 1).trans rfl
  clear hB h2 h4
  go_enter Try.func53, Try.ntmps53
  go_wp2
  go_ret
  exact ⟨rfl, Below.refl _ _⟩
set_option maxHeartbeats 1000000 in
theorem most_54 (h : IsW w0 W g fs xs ts lets n f) : Calls Try.prog 54 #[.pointer (some ⟨g, 0, none⟩)] W fun e w' => e = .returned (.int .i64 (ts.length : Int)) ∧ Below W.heap.size W w' := by
  obtain ⟨hB, Af, cf, Ax, cx, At, ct, Ac, cc, hg, h1, h2, h3, h4⟩ := h
  have hu45 := Try.underlying45
  have hu26 := Try.underlying26
  have c2 := (blk_cell hg 2).trans rfl
  clear hB h2 h4
  go_enter Try.func54, Try.ntmps54
  go_wp2
  go_ret
  exact ⟨rfl, Below.refl _ _⟩
set_option maxHeartbeats 1000000 in
theorem most_55 (h : IsW w0 W g fs xs ts lets n f) : Calls Try.prog 55 #[.pointer (some ⟨g, 0, none⟩)] W fun e w' => e = .returned (.int .i64 f.f0) ∧ Below W.heap.size W w' := by
  obtain ⟨hB, Af, cf, Ax, cx, At, ct, Ac, cc, hg, h1, h2, h3, h4⟩ := h
  have hu45 := Try.underlying45
  have hu32 := Try.underlying32
  have c5 := (blk_cell hg 5).trans rfl
  clear hB h2 h4
  go_enter Try.func55, Try.ntmps55
  go_wp2
  go_ret
  exact ⟨rfl, Below.refl _ _⟩
set_option maxHeartbeats 1000000 in
theorem most_60 (p : Value) : Calls Try.prog 60 #[p] W fun e w' => e = .returned (.int .i64 4) ∧ Below W.heap.size W w' := by
  go_enter Try.func60, Try.ntmps60
  go_wp2
  go_ret
  exact ⟨rfl, Below.refl _ _⟩
set_option maxHeartbeats 1000000 in
theorem most_61 (p : Value) : Calls Try.prog 61 #[p] W fun e w' => e = .returned (.int .i64 7) ∧ Below W.heap.size W w' := by
  go_enter Try.func61, Try.ntmps61
  go_wp2
  go_ret
  exact ⟨rfl, Below.refl _ _⟩
/-- A function that says what A is below. -/
def MostF (fn : Nat) : Prop := fn = 50 ∨ fn = 51 ∨ fn = 53 ∨ fn = 54 ∨ fn = 55 ∨ fn = 60 ∨ fn = 61
theorem most_calls {fn : Nat} (hfn : MostF fn) (h : IsW w0 W g fs xs ts lets n f) : Calls Try.prog fn #[.pointer (some ⟨g, 0, none⟩)] W fun e w' => e = .returned (.int .i64 (mostK fn fs xs ts lets f)) ∧ Below W.heap.size W w' := by
  rcases hfn with rfl | rfl | rfl | rfl | rfl | rfl | rfl
  · exact most_50 h
  · exact most_51 h
  · exact most_53 h
  · exact most_54 h
  · exact most_55 h
  · exact most_60 _
  · exact most_61 _
theorem most_fn {fn : Nat} (hfn : MostF fn) : ∀ (args : Array Value) (W : World), (callFunc fn args).run Try.prog W = .ok (.enter fn args) W := by
  rcases hfn with rfl | rfl | rfl | rfl | rfl | rfl | rfl
  · exact fun args W => enters_ Try.func50 (by kernel_rfl) rfl args W
  · exact fun args W => enters_ Try.func51 (by kernel_rfl) rfl args W
  · exact fun args W => enters_ Try.func53 (by kernel_rfl) rfl args W
  · exact fun args W => enters_ Try.func54 (by kernel_rfl) rfl args W
  · exact fun args W => enters_ Try.func55 (by kernel_rfl) rfl args W
  · exact fun args W => enters_ Try.func60 (by kernel_rfl) rfl args W
  · exact fun args W => enters_ Try.func61 (by kernel_rfl) rfl args W
end
end Go.Proofs.Ytnhipgmphhndhaa.Q
namespace Go.Proofs.Ytnhipgmphhndhaa.Q
open Go.RowKit Go.Proofs.YtnhipgmphhndhaaW.PrintWords Go.Proofs.YtnhipgmphhndhaaW.PrintLast Go.Proofs.YtnhipgmphhndhaaW.PrintMore
set_option linter.unusedVariables false
set_option linter.unusedSectionVars false
set_option linter.unusedSimpArgs false
section
variable {w0 W W1 : World} {g : Nat} {fs : List S32} {xs : List Int} {ts : List ByteArray} {lets n : Int} {f : S32}
/-! ### the closures -/
set_option maxHeartbeats 1000000 in
set_option maxRecDepth 100000 in
theorem rule_64 {fn : Nat} (hfn : MostF fn) (hI : IsW w0 W g fs xs ts lets n f) (i : S37) (t p : Int) (g0 g1 g2 : Nat) (b0 : W.heap[g0]? = some (.cells #[.int .i64 t] 3 (0, 0))) (b1 : W.heap[g1]? = some (.cells #[.int .i64 p] 3 (0, 0))) (b2 : W.heap[g2]? = some (.cells #[.func (.func fn) #[] #[]] 101 (0, 0))) :
    Calls Try.prog 64 #[.pointer (some ⟨g, 0, none⟩), .agg #[.int .i64 i.f0, .int .i64 i.f1, .int .i64 i.f2], .pointer (some ⟨g2, 0, none⟩), .pointer (some ⟨g0, 0, none⟩), .pointer (some ⟨g1, 0, none⟩)] W fun e w' =>
      e = .returned (.tuple #[.bool (decide (i.f1 < mostK fn fs xs ts lets f)), .int .i64 t, .int .i64 p]) ∧ Below W.heap.size W w' := by
  have hu37 := Try.underlying37
  have HI := Aside0.mk hI
  have HB := Aside0.mk (Below.refl W.heap.size W)
  have B0 := Aside0.mk b0
  have B1 := Aside0.mk b1
  have B2 := Aside0.mk b2
  have HM := Aside0.mk (@most_calls w0 · g fs xs ts lets n f fn hfn)
  clear hI b0 b1 b2
  go_enter Try.func64, Try.ntmps64
  go_wp2_with (first
    | ((with_reducible refine gate_dst (N := 6) rfl ?_); refine box_event ?hg (N := 6) ?hd (cs := #[.int .i64 i.f0, .int .i64 i.f1, .int .i64 i.f2]) (t := 37) ?hr ?_; (case hd => rfl); (case hg => rfl); (case hr => first | (go_simp; done) | (go_simp; rfl)); intro gA hgA w7 hbox hb; have BA := Aside0.mk hbox; have n0_ := Aside0.mk (below_step HB.out hb); have n1_ := Aside0.mk (blk_below B0.out hb); have n2_ := Aside0.mk (blk_below B1.out hb); have n3_ := Aside0.mk (blk_below B2.out hb); have n4_ := Aside0.mk (HI.out.below hb); clear HB B0 B1 B2 HI; have HB := n0_; have B0 := n1_; have B1 := n2_; have B2 := n3_; have HI := n4_; clear n0_ n1_ n2_ n3_ n4_ hbox hb hgA))
  have q0 := (blk_cell B0.out 0).trans rfl
  have q1 := (blk_cell B1.out 0).trans rfl
  have q2 := (blk_cell B2.out 0).trans rfl
  have q3 := (blk_cell BA.out 1).trans rfl
  have he := most_fn hfn
  rcases hfn with rfl | rfl | rfl | rfl | rfl | rfl | rfl
  · go_region_held3 (fun w' => w'.cell? ⟨gA, 1, none⟩ = some (.int .i64 i.f1) ∧ w'.cell? ⟨g0, 0, none⟩ = some (.int .i64 t) ∧ w'.cell? ⟨g1, 0, none⟩ = some (.int .i64 p) ∧ w'.cell? ⟨g2, 0, none⟩ = some (.func (.func 50) #[] #[])) (go_keep) (first
      | (go_at_call 50; (with_reducible refine (HM.out _ HI.out.drew).mono ?_); rintro e w8 ⟨rfl, hb⟩; have hb' := Aside0.mk (below_step (below_drew1 HB.out) hb); have r0 := (blk_cell (blk_below (blk_drew B0.out) hb) 0).trans rfl; have r1 := (blk_cell (blk_below (blk_drew B1.out) hb) 0).trans rfl; have r2 := (blk_cell (blk_below (blk_drew B2.out) hb) 0).trans rfl; have r3 := (blk_cell (blk_below (blk_drew BA.out) hb) 1).trans rfl; clear hb))
    go_wp2
    go_ret3
    exact ⟨rfl, hb'.out⟩
  · go_region_held3 (fun w' => w'.cell? ⟨gA, 1, none⟩ = some (.int .i64 i.f1) ∧ w'.cell? ⟨g0, 0, none⟩ = some (.int .i64 t) ∧ w'.cell? ⟨g1, 0, none⟩ = some (.int .i64 p) ∧ w'.cell? ⟨g2, 0, none⟩ = some (.func (.func 51) #[] #[])) (go_keep) (first
      | (go_at_call 51; (with_reducible refine (HM.out _ HI.out.drew).mono ?_); rintro e w8 ⟨rfl, hb⟩; have hb' := Aside0.mk (below_step (below_drew1 HB.out) hb); have r0 := (blk_cell (blk_below (blk_drew B0.out) hb) 0).trans rfl; have r1 := (blk_cell (blk_below (blk_drew B1.out) hb) 0).trans rfl; have r2 := (blk_cell (blk_below (blk_drew B2.out) hb) 0).trans rfl; have r3 := (blk_cell (blk_below (blk_drew BA.out) hb) 1).trans rfl; clear hb))
    go_wp2
    go_ret3
    exact ⟨rfl, hb'.out⟩
  · go_region_held3 (fun w' => w'.cell? ⟨gA, 1, none⟩ = some (.int .i64 i.f1) ∧ w'.cell? ⟨g0, 0, none⟩ = some (.int .i64 t) ∧ w'.cell? ⟨g1, 0, none⟩ = some (.int .i64 p) ∧ w'.cell? ⟨g2, 0, none⟩ = some (.func (.func 53) #[] #[])) (go_keep) (first
      | (go_at_call 53; (with_reducible refine (HM.out _ HI.out.drew).mono ?_); rintro e w8 ⟨rfl, hb⟩; have hb' := Aside0.mk (below_step (below_drew1 HB.out) hb); have r0 := (blk_cell (blk_below (blk_drew B0.out) hb) 0).trans rfl; have r1 := (blk_cell (blk_below (blk_drew B1.out) hb) 0).trans rfl; have r2 := (blk_cell (blk_below (blk_drew B2.out) hb) 0).trans rfl; have r3 := (blk_cell (blk_below (blk_drew BA.out) hb) 1).trans rfl; clear hb))
    go_wp2
    go_ret3
    exact ⟨rfl, hb'.out⟩
  · go_region_held3 (fun w' => w'.cell? ⟨gA, 1, none⟩ = some (.int .i64 i.f1) ∧ w'.cell? ⟨g0, 0, none⟩ = some (.int .i64 t) ∧ w'.cell? ⟨g1, 0, none⟩ = some (.int .i64 p) ∧ w'.cell? ⟨g2, 0, none⟩ = some (.func (.func 54) #[] #[])) (go_keep) (first
      | (go_at_call 54; (with_reducible refine (HM.out _ HI.out.drew).mono ?_); rintro e w8 ⟨rfl, hb⟩; have hb' := Aside0.mk (below_step (below_drew1 HB.out) hb); have r0 := (blk_cell (blk_below (blk_drew B0.out) hb) 0).trans rfl; have r1 := (blk_cell (blk_below (blk_drew B1.out) hb) 0).trans rfl; have r2 := (blk_cell (blk_below (blk_drew B2.out) hb) 0).trans rfl; have r3 := (blk_cell (blk_below (blk_drew BA.out) hb) 1).trans rfl; clear hb))
    go_wp2
    go_ret3
    exact ⟨rfl, hb'.out⟩
  · go_region_held3 (fun w' => w'.cell? ⟨gA, 1, none⟩ = some (.int .i64 i.f1) ∧ w'.cell? ⟨g0, 0, none⟩ = some (.int .i64 t) ∧ w'.cell? ⟨g1, 0, none⟩ = some (.int .i64 p) ∧ w'.cell? ⟨g2, 0, none⟩ = some (.func (.func 55) #[] #[])) (go_keep) (first
      | (go_at_call 55; (with_reducible refine (HM.out _ HI.out.drew).mono ?_); rintro e w8 ⟨rfl, hb⟩; have hb' := Aside0.mk (below_step (below_drew1 HB.out) hb); have r0 := (blk_cell (blk_below (blk_drew B0.out) hb) 0).trans rfl; have r1 := (blk_cell (blk_below (blk_drew B1.out) hb) 0).trans rfl; have r2 := (blk_cell (blk_below (blk_drew B2.out) hb) 0).trans rfl; have r3 := (blk_cell (blk_below (blk_drew BA.out) hb) 1).trans rfl; clear hb))
    go_wp2
    go_ret3
    exact ⟨rfl, hb'.out⟩
  · go_region_held3 (fun w' => w'.cell? ⟨gA, 1, none⟩ = some (.int .i64 i.f1) ∧ w'.cell? ⟨g0, 0, none⟩ = some (.int .i64 t) ∧ w'.cell? ⟨g1, 0, none⟩ = some (.int .i64 p) ∧ w'.cell? ⟨g2, 0, none⟩ = some (.func (.func 60) #[] #[])) (go_keep) (first
      | (go_at_call 60; (with_reducible refine (HM.out _ HI.out.drew).mono ?_); rintro e w8 ⟨rfl, hb⟩; have hb' := Aside0.mk (below_step (below_drew1 HB.out) hb); have r0 := (blk_cell (blk_below (blk_drew B0.out) hb) 0).trans rfl; have r1 := (blk_cell (blk_below (blk_drew B1.out) hb) 0).trans rfl; have r2 := (blk_cell (blk_below (blk_drew B2.out) hb) 0).trans rfl; have r3 := (blk_cell (blk_below (blk_drew BA.out) hb) 1).trans rfl; clear hb))
    go_wp2
    go_ret3
    exact ⟨rfl, hb'.out⟩
  · go_region_held3 (fun w' => w'.cell? ⟨gA, 1, none⟩ = some (.int .i64 i.f1) ∧ w'.cell? ⟨g0, 0, none⟩ = some (.int .i64 t) ∧ w'.cell? ⟨g1, 0, none⟩ = some (.int .i64 p) ∧ w'.cell? ⟨g2, 0, none⟩ = some (.func (.func 61) #[] #[])) (go_keep) (first
      | (go_at_call 61; (with_reducible refine (HM.out _ HI.out.drew).mono ?_); rintro e w8 ⟨rfl, hb⟩; have hb' := Aside0.mk (below_step (below_drew1 HB.out) hb); have r0 := (blk_cell (blk_below (blk_drew B0.out) hb) 0).trans rfl; have r1 := (blk_cell (blk_below (blk_drew B1.out) hb) 0).trans rfl; have r2 := (blk_cell (blk_below (blk_drew B2.out) hb) 0).trans rfl; have r3 := (blk_cell (blk_below (blk_drew BA.out) hb) 1).trans rfl; clear hb))
    go_wp2
    go_ret3
    exact ⟨rfl, hb'.out⟩
set_option maxHeartbeats 1000000 in
set_option maxRecDepth 100000 in
theorem rule_65 (v : Value) (i : S37) (t p : Int) (g0 g1 : Nat) (b0 : W.heap[g0]? = some (.cells #[.int .i64 t] 3 (0, 0))) (b1 : W.heap[g1]? = some (.cells #[.int .i64 p] 3 (0, 0))) :
    Calls Try.prog 65 #[v, .agg #[.int .i64 i.f0, .int .i64 i.f1, .int .i64 i.f2], .pointer (some ⟨g0, 0, none⟩), .pointer (some ⟨g1, 0, none⟩)] W fun e w' =>
      e = .returned (.tuple #[.bool true, .int .i64 t, .int .i64 p]) ∧ Below W.heap.size W w' := by
  have hu37 := Try.underlying37
  have HB := Aside0.mk (Below.refl W.heap.size W)
  have B0 := Aside0.mk b0
  have B1 := Aside0.mk b1
  clear b0 b1
  go_enter Try.func65, Try.ntmps65
  go_wp2_with (first
    | ((with_reducible refine gate_dst (N := 5) rfl ?_); refine box_event ?hg (N := 5) ?hd (cs := #[.int .i64 i.f0, .int .i64 i.f1, .int .i64 i.f2]) (t := 37) ?hr ?_; (case hd => rfl); (case hg => rfl); (case hr => first | (go_simp; done) | (go_simp; rfl)); intro gA hgA w7 hbox hb; have BA := Aside0.mk hbox; have n0_ := Aside0.mk (below_step HB.out hb); have n1_ := Aside0.mk (blk_below B0.out hb); have n2_ := Aside0.mk (blk_below B1.out hb); clear HB B0 B1; have HB := n0_; have B0 := n1_; have B1 := n2_; clear n0_ n1_ n2_ hbox hb hgA))
  have q0 := (blk_cell B0.out 0).trans rfl
  have q1 := (blk_cell B1.out 0).trans rfl
  go_region_held3 (fun w' => w'.cell? ⟨g0, 0, none⟩ = some (.int .i64 t) ∧ w'.cell? ⟨g1, 0, none⟩ = some (.int .i64 p)) (go_keep) (fail)
  go_wp2
  go_ret3
  exact ⟨rfl, below_drew1 HB.out⟩
set_option maxHeartbeats 1000000 in
set_option maxRecDepth 100000 in
theorem rule_56 (hI : IsW w0 W g fs xs ts lets n f) (i : S37) :
    Calls Try.prog 56 #[.pointer (some ⟨g, 0, none⟩), .agg #[.int .i64 i.f0, .int .i64 i.f1, .int .i64 i.f2]] W fun e w' =>
      e = .returned (.tuple #[.bool (decide (0 < n)), .int .i64 0, .int .i64 1]) ∧ Below W.heap.size W w' := by
  obtain ⟨hB, Af, cf, Ax, cx, At, ct, Ac, cc, hg, h1, h2, h3, h4⟩ := hI
  have hu45 := Try.underlying45
  have hu37 := Try.underlying37
  have hlt := blk_lt hg
  have c4 : ∀ o : Obj, (W.alloc o).cell? ⟨g, 4, none⟩ = some (.int .i64 n) := fun o => (blk_cell (blk_alloc hg o) 4).trans rfl
  clear hB h2 h4 h1 h3
  go_enter Try.func56, Try.ntmps56
  go_wp2
  go_ret3
  exact ⟨rfl, below_alloc (Below.refl _ _) _⟩
end
end Go.Proofs.Ytnhipgmphhndhaa.Q
namespace Go.Proofs.Ytnhipgmphhndhaa.Q
open Go.RowKit Go.Proofs.YtnhipgmphhndhaaW.PrintWords Go.Proofs.YtnhipgmphhndhaaW.PrintLast Go.Proofs.YtnhipgmphhndhaaW.PrintMore
set_option linter.unusedVariables false
set_option linter.unusedSectionVars false
set_option linter.unusedSimpArgs false
section
variable {w0 W W1 : World} {g : Nat} {fs : List S32} {xs : List Int} {ts : List ByteArray} {lets n : Int} {f : S32}
theorem cell_new (o : Obj) (cs : Array Value) (t : Nat) (ho : o = .cells cs t (0, 0)) (j : Nat) : (W.alloc o).cell? ⟨W.heap.size, j, none⟩ = cs[j]? := by
  subst ho
  exact blk_cell (blk_new W _) j
set_option maxHeartbeats 1000000 in
set_option maxRecDepth 100000 in
theorem rule_58 (v : Value) (i : S37) : Calls Try.prog 58 #[v, .agg #[.int .i64 i.f0, .int .i64 i.f1, .int .i64 i.f2]] W fun e w' =>
      e = .returned (.tuple #[.bool (decide (i.f1 ≤ 199) && (decide (1 ≤ i.f2) && decide (i.f2 ≤ 4))), .int .i64 i.f2, .int .i64 1]) ∧ Below W.heap.size W w' := by
  have hu37 := Try.underlying37
  have q1 := cell_new (W := W) (.cells #[.int .i64 i.f0, .int .i64 i.f1, .int .i64 i.f2] 37) _ 37 rfl 1
  have q2 := cell_new (W := W) (.cells #[.int .i64 i.f0, .int .i64 i.f1, .int .i64 i.f2] 37) _ 37 rfl 2
  by_cases hA : i.f1 ≤ 199
  · have a1 := decide_eq_true hA
    by_cases hB : 1 ≤ i.f2
    · have a2 := decide_eq_true hB
      have a3 : decide (i.f2 ≥ 1) = true := decide_eq_true hB
      rw [a1, a2, Bool.true_and, Bool.true_and]
      clear hA hB
      go_enter Try.func58, Try.ntmps58
      go_wp2
      go_quiet (fail)
      go_wp2
      go_ret3
      exact ⟨rfl, by first | exact below_drew1 (below_alloc (Below.refl _ _) _) | exact pw_below_drewN (below_alloc (Below.refl _ _) _) _⟩
    · have a2 := decide_eq_false hB
      have a3 : decide (i.f2 ≥ 1) = false := decide_eq_false hB
      rw [a1, a2, Bool.true_and, Bool.false_and]
      clear hA hB
      go_enter Try.func58, Try.ntmps58
      go_wp2
      go_quiet (fail)
      go_wp2
      go_ret3
      exact ⟨rfl, by first | exact below_drew1 (below_alloc (Below.refl _ _) _) | exact pw_below_drewN (below_alloc (Below.refl _ _) _) _⟩
  · have a1 := decide_eq_false hA
    rw [a1, Bool.false_and]
    clear hA
    go_enter Try.func58, Try.ntmps58
    go_wp2
    go_quiet (fail)
    go_wp2
    go_ret3
    exact ⟨rfl, by first | exact below_drew1 (below_alloc (Below.refl _ _) _) | exact pw_below_drewN (below_alloc (Below.refl _ _) _) _⟩
set_option maxHeartbeats 1000000 in
set_option maxRecDepth 100000 in
theorem rule_59 (hI : IsW w0 W g fs xs ts lets n f) (i : S37) : Calls Try.prog 59 #[.pointer (some ⟨g, 0, none⟩), .agg #[.int .i64 i.f0, .int .i64 i.f1, .int .i64 i.f2]] W fun e w' =>
      e = .returned (.tuple #[.bool (decide (0 < i.f1) && (decide (i.f1 < (fs.length : Int)) && decide ((rd_T32 fs i.f1).f0 = i.f2))), .int .i64 i.f2, .int .i64 1]) ∧ Below W.heap.size W w' := by
  obtain ⟨hB, Af, cf, Ax, cx, At, ct, Ac, cc, hg, h1, h2, h3, h4⟩ := hI
  have hu45 := Try.underlying45
  have hu37 := Try.underlying37
  have hu26 := Try.underlying26
  have hu32 := Try.underlying32
  have q1 := cell_new (W := W) (.cells #[.int .i64 i.f0, .int .i64 i.f1, .int .i64 i.f2] 37) _ 37 rfl 1
  have q2 := cell_new (W := W) (.cells #[.int .i64 i.f0, .int .i64 i.f1, .int .i64 i.f2] 37) _ 37 rfl 2
  have q3 : ∀ o : Obj, (W.alloc o).cell? ⟨g, 0, none⟩ = some (.slice Af fs.length cf) := fun o => (blk_cell (blk_alloc hg o) 0).trans rfl
  by_cases hA : 0 < i.f1
  · have a1 := decide_eq_true hA
    by_cases hN : i.f1 < (fs.length : Int)
    · have a2 := decide_eq_true hN
      obtain ⟨ad, A3, c3, e, hx0, hx1, hx2, hx3, _⟩ := at_T32 h2 i.f1 (by omega) hN
      cases e
      have q4 : ∀ o : Obj, (W.alloc o).cell? (ad.add (i.f1.toNat * 4)) = some (.int .i64 (rd_T32 fs i.f1).f0) := fun o => ((below_alloc hB o).cell (World.block_lt_of_cell? w0 _ hx0)).trans hx0
      have p1 : (0 ≤ i.f1) = True := eq_true (by omega)
      have p2 : (i.f1 < (fs.length : Int)) = True := eq_true hN
      rw [a1, a2, Bool.true_and, Bool.true_and]
      have a3 : ((rd_T32 fs i.f1).f0 == i.f2) = decide ((rd_T32 fs i.f1).f0 = i.f2) := rfl
      clear hA hN hB h1 h2 h3 h4 hx0 hx1 hx2 hx3 hg
      go_enter Try.func59, Try.ntmps59
      go_wp2
      go_quiet (fail)
      go_wp2
      go_ret3
      exact ⟨by first | rfl | (rw [a3]; rfl) | (simp only [a3]), by first | exact below_drew1 (below_alloc (Below.refl _ _) _) | exact pw_below_drewN (below_alloc (Below.refl _ _) _) _⟩
    · have a2 := decide_eq_false hN
      rw [a1, a2, Bool.true_and, Bool.false_and]
      clear hA hN hB h1 h2 h3 h4 hg
      go_enter Try.func59, Try.ntmps59
      go_wp2
      go_quiet (fail)
      go_wp2
      go_ret3
      exact ⟨rfl, by first | exact below_drew1 (below_alloc (Below.refl _ _) _) | exact pw_below_drewN (below_alloc (Below.refl _ _) _) _⟩
  · have a1 := decide_eq_false hA
    rw [a1, Bool.false_and]
    clear hA hB h1 h2 h3 h4 hg
    go_enter Try.func59, Try.ntmps59
    go_wp2
    go_quiet (fail)
    go_wp2
    go_ret3
    exact ⟨rfl, by first | exact below_drew1 (below_alloc (Below.refl _ _) _) | exact pw_below_drewN (below_alloc (Below.refl _ _) _) _⟩
end
end Go.Proofs.Ytnhipgmphhndhaa.Q
namespace Go.Proofs.Ytnhipgmphhndhaa.Q
open Go.RowKit Go.Proofs.YtnhipgmphhndhaaW.PrintWords Go.Proofs.YtnhipgmphhndhaaW.PrintLast Go.Proofs.YtnhipgmphhndhaaW.PrintMore
open Go.Maps (Keyed)
set_option linter.unusedVariables false
set_option linter.unusedSectionVars false
set_option linter.unusedSimpArgs false
set_option maxRecDepth 100000
/-! ### the map of rules -/
def IsBelow (W : World) (v : Value) (t p : Int) (fn : Nat) : Prop := ∃ g0 g1 g2, v = .func (.func 64) #[] #[.pointer (some ⟨g2, 0, none⟩), .pointer (some ⟨g0, 0, none⟩), .pointer (some ⟨g1, 0, none⟩)] ∧
  W.heap[g0]? = some (.cells #[.int .i64 t] 3 (0, 0)) ∧ W.heap[g1]? = some (.cells #[.int .i64 p] 3 (0, 0)) ∧ W.heap[g2]? = some (.cells #[.func (.func fn) #[] #[]] 101 (0, 0))
def IsFixed (W : World) (v : Value) (t p : Int) : Prop := ∃ g0 g1, v = .func (.func 65) #[] #[.pointer (some ⟨g0, 0, none⟩), .pointer (some ⟨g1, 0, none⟩)] ∧
  W.heap[g0]? = some (.cells #[.int .i64 t] 3 (0, 0)) ∧ W.heap[g1]? = some (.cells #[.int .i64 p] 3 (0, 0))
/-- Cells stay, in all blocks that are none of a map. -/
def KeepC (W W1 : World) : Prop := ∀ (i : Nat) (o : Array Value) (t : Nat) (fr : Nat × Nat), W.heap[i]? = some (.cells o t fr) → W1.heap[i]? = some (.cells o t fr)
theorem KeepC.of_below {W W1 : World} (h : Below W.heap.size W W1) : KeepC W W1 := fun i o t fr hi => blk_below hi h
theorem IsBelow.keep {W W1 : World} {v : Value} {t p : Int} {fn : Nat} (h : IsBelow W v t p fn) (k : KeepC W W1) : IsBelow W1 v t p fn := by
  obtain ⟨g0, g1, g2, e, b0, b1, b2⟩ := h
  exact ⟨g0, g1, g2, e, k _ _ _ _ b0, k _ _ _ _ b1, k _ _ _ _ b2⟩
theorem IsFixed.keep {W W1 : World} {v : Value} {t p : Int} (h : IsFixed W v t p) (k : KeepC W W1) : IsFixed W1 v t p := by
  obtain ⟨g0, g1, e, b0, b1⟩ := h
  exact ⟨g0, g1, e, k _ _ _ _ b0, k _ _ _ _ b1⟩
/-- The rule of an Op. -/
def RuleV (W : World) (v : Value) (op : Int) : Prop :=
  if op = 1 then IsBelow W v 0 1 53 else
  if op = 2 then IsBelow W v 0 1 54 else
  if op = 3 then IsBelow W v 0 1 50 else
  if op = 4 then IsBelow W v 0 1 55 else
  if op = 5 then v = .func (.func 56) #[] #[] else
  if op = 6 then IsBelow W v 0 1 51 else
  if op = 7 then IsBelow W v 1 0 50 else
  if op = 8 then IsBelow W v 1 0 51 else
  if op = 9 then IsFixed W v 1 0 else
  if op = 10 then v = .func (.func 58) #[] #[] else
  if op = 11 then v = .func (.func 59) #[] #[] else
  if op = 12 then IsBelow W v 1 1 60 else
  if op = 13 then IsFixed W v 2 1 else
  if op = 14 then IsFixed W v 2 0 else
  if op = 15 then IsFixed W v 1 0 else
  if op = 17 then IsFixed W v 1 0 else
  if op = 18 then IsFixed W v 1 0 else
  if op = 19 then IsBelow W v 2 1 61 else
  if op = 20 then IsFixed W v 2 1 else
  if op = 23 then IsFixed W v 1 0 else
  if op = 24 then IsFixed W v 1 1 else
  if op = 25 then IsFixed W v 1 1 else
  if op = 31 then IsFixed W v 1 1 else
  if op = 32 then IsFixed W v 1 1 else
  if op = 33 then IsFixed W v 2 1 else
  False
theorem RuleV.keep {W W1 : World} {v : Value} {op : Int} (h : RuleV W v op) (k : KeepC W W1) : RuleV W1 v op := by
  unfold RuleV at h ⊢
  by_cases h1 : op = 1
  · rw [if_pos h1] at h ⊢
    exact h.keep k
  rw [if_neg h1] at h ⊢
  by_cases h2 : op = 2
  · rw [if_pos h2] at h ⊢
    exact h.keep k
  rw [if_neg h2] at h ⊢
  by_cases h3 : op = 3
  · rw [if_pos h3] at h ⊢
    exact h.keep k
  rw [if_neg h3] at h ⊢
  by_cases h4 : op = 4
  · rw [if_pos h4] at h ⊢
    exact h.keep k
  rw [if_neg h4] at h ⊢
  by_cases h5 : op = 5
  · rw [if_pos h5] at h ⊢
    exact h
  rw [if_neg h5] at h ⊢
  by_cases h6 : op = 6
  · rw [if_pos h6] at h ⊢
    exact h.keep k
  rw [if_neg h6] at h ⊢
  by_cases h7 : op = 7
  · rw [if_pos h7] at h ⊢
    exact h.keep k
  rw [if_neg h7] at h ⊢
  by_cases h8 : op = 8
  · rw [if_pos h8] at h ⊢
    exact h.keep k
  rw [if_neg h8] at h ⊢
  by_cases h9 : op = 9
  · rw [if_pos h9] at h ⊢
    exact h.keep k
  rw [if_neg h9] at h ⊢
  by_cases h10 : op = 10
  · rw [if_pos h10] at h ⊢
    exact h
  rw [if_neg h10] at h ⊢
  by_cases h11 : op = 11
  · rw [if_pos h11] at h ⊢
    exact h
  rw [if_neg h11] at h ⊢
  by_cases h12 : op = 12
  · rw [if_pos h12] at h ⊢
    exact h.keep k
  rw [if_neg h12] at h ⊢
  by_cases h13 : op = 13
  · rw [if_pos h13] at h ⊢
    exact h.keep k
  rw [if_neg h13] at h ⊢
  by_cases h14 : op = 14
  · rw [if_pos h14] at h ⊢
    exact h.keep k
  rw [if_neg h14] at h ⊢
  by_cases h15 : op = 15
  · rw [if_pos h15] at h ⊢
    exact h.keep k
  rw [if_neg h15] at h ⊢
  by_cases h17 : op = 17
  · rw [if_pos h17] at h ⊢
    exact h.keep k
  rw [if_neg h17] at h ⊢
  by_cases h18 : op = 18
  · rw [if_pos h18] at h ⊢
    exact h.keep k
  rw [if_neg h18] at h ⊢
  by_cases h19 : op = 19
  · rw [if_pos h19] at h ⊢
    exact h.keep k
  rw [if_neg h19] at h ⊢
  by_cases h20 : op = 20
  · rw [if_pos h20] at h ⊢
    exact h.keep k
  rw [if_neg h20] at h ⊢
  by_cases h23 : op = 23
  · rw [if_pos h23] at h ⊢
    exact h.keep k
  rw [if_neg h23] at h ⊢
  by_cases h24 : op = 24
  · rw [if_pos h24] at h ⊢
    exact h.keep k
  rw [if_neg h24] at h ⊢
  by_cases h25 : op = 25
  · rw [if_pos h25] at h ⊢
    exact h.keep k
  rw [if_neg h25] at h ⊢
  by_cases h31 : op = 31
  · rw [if_pos h31] at h ⊢
    exact h.keep k
  rw [if_neg h31] at h ⊢
  by_cases h32 : op = 32
  · rw [if_pos h32] at h ⊢
    exact h.keep k
  rw [if_neg h32] at h ⊢
  by_cases h33 : op = 33
  · rw [if_pos h33] at h ⊢
    exact h.keep k
  rw [if_neg h33] at h ⊢
  exact h
/-- A value read as itself: the map's elements. -/
def rdV (v : Value) : Option (DataW Value × List MemPlace) := some (.held v, [])
def mapOf (vs : List (Int × Value)) : DataW Value := vs.foldr (fun p D => D.put (.int .i64 p.1) (.held p.2)) (.map [])
/-- The map at block g holds just these rules. -/
def Built (w W : World) (g : Nat) (vs : List (Int × Value)) : Prop := Below w.heap.size w W ∧ w.heap.size ≤ g ∧ W.ownsMap Try.prog 3 rdV g vs.length (mapOf vs) ∧ ∀ p ∈ vs, RuleV W p.2 p.1
theorem key3 : Keyed Try.prog 3 := Maps.int_keyed Try.underlying3
section
variable {w W W1 : World} {g : Nat} {vs : List (Int × Value)}
theorem Built.below (h : Built w W g vs) (hb : Below W.heap.size W W1) : Built w W1 g vs := by
  obtain ⟨h1, h2, h3, h4⟩ := h
  refine ⟨below_step h1 hb, h2, h3.kept (row := none) ?_ (by simp), fun p hp => (h4 p hp).keep (.of_below hb)⟩
  exact ⟨hb.os, hb.tape, hb.output, hb.size, fun i hi _ => hb.block i hi⟩
theorem Built.new (w : World) : Built w (w.alloc (.map #[] 0)) w.heap.size [] := ⟨below_alloc (Below.refl _ _) _, Nat.le_refl _, World.ownsMap_made _ _ _ _, fun p hp => absurd hp (by simp)⟩
theorem Built.put (h : Built w W g vs) (hg : W.grownBy W1 (some g)) {k : Int} {v : Value} (ho : W1.ownsMap Try.prog 3 rdV g (vs.length + 1) ((mapOf vs).put (.int .i64 k) (.held v))) (hv : RuleV W v k) : Built w W1 g ((k, v) :: vs) := by
  obtain ⟨h1, h2, h3, h4⟩ := h
  have hk : KeepC W W1 := by
    intro i o t fr hi
    by_cases he : some i = some g
    · injection he with he
      subst he
      obtain ⟨es, clock, hb, _⟩ := h3
      rw [hb] at hi
      exact absurd hi (by simp)
    · exact (hg.block i (blk_lt hi) he).trans hi
  refine ⟨h1.grown hg h1.size (fun k hk => by injection hk with hk; omega), h2, ho, fun p hp => ?_⟩
  rcases List.mem_cons.1 hp with rfl | hp
  · exact hv.keep hk
  · exact (h4 p hp).keep hk
/-- An element is laid into the map. -/
theorem ins_ {ops : Array Oper} {rest : List Oper} {o : Oper} {a : Act} {Q : Exit → Act → World → Prop} (hg : o.guard = none) (m x v : Operand) (hop : o.op = Op.insert 82 m x v)
    (hm : a.eval m = .map (some g)) (k : Int) (val : Value) (hx : a.eval x = .int .i64 k) (hv : a.eval v = val) (hwf : (Lit.int .i64 k).wf = true) (hB : Built w W g vs) (hn : vs.length < 1000) (hr : RuleV W val k)
    (h : ∀ W1, Built w W1 g ((k, val) :: vs) → wpList Try.prog ops Q rest (a.put o.dst undef) W1) : wpList Try.prog ops Q (o :: rest) a W := by
  refine wpList_plain hg fun K' hK' => ?_
  obtain ⟨w', hrun, r1, r2⟩ := hB.2.2.1.update key3 Try.underlying82 (Nat.lt_trans hn (by unfold maxLen; omega)) (Maps.keyOf_int_mk Try.underlying3 hwf) (show rdV val = some (.held val, []) from rfl)
  unfold Oper.wp
  simp [execOp, hop, hm, hx, hv, hrun, Result.andThen]
  exact hK' _ _ (h w' (hB.put r2 r1 hr))
theorem isMap_mapOf : ∀ vs : List (Int × Value), Maps.IsMap (mapOf vs)
  | [] => Maps.isMap_empty
  | p :: vs => (isMap_mapOf vs).put _ _
theorem at_mapOf {op : Int} (hwf : (Lit.int .i64 op).wf = true) (z : DataW Value) : ∀ vs : List (Int × Value), (op ∉ vs.map Prod.fst ∧ (mapOf vs).atKey (.int .i64 op) z = z) ∨ ∃ p ∈ vs, p.1 = op ∧ (mapOf vs).atKey (.int .i64 op) z = .held p.2
  | [] => .inl ⟨by simp, rfl⟩
  | p :: vs => by
    by_cases he : p.1 = op
    · refine .inr ⟨p, List.mem_cons_self, he, ?_⟩
      show ((mapOf vs).put (.int .i64 p.1) (.held p.2)).atKey (.int .i64 op) z = _
      rw [he]
      exact Maps.atKey_put_same (isMap_mapOf vs) (key3.key (Maps.keyOf_int_mk Try.underlying3 hwf)) _ _
    · have e1 : ((mapOf vs).put (.int .i64 p.1) (.held p.2)).atKey (.int .i64 op) z = (mapOf vs).atKey (.int .i64 op) z := Maps.atKey_put_other (by intro h; injection h with _ h; exact he h.symm) _ _
      rcases at_mapOf hwf z vs with ⟨h1, h2⟩ | ⟨q, hq, h1, h2⟩
      · exact .inl ⟨by rw [List.map_cons, List.mem_cons]; exact fun h => h.elim (fun h => he h.symm) h1, e1.trans h2⟩
      · exact .inr ⟨q, List.mem_cons_of_mem _ hq, h1, e1.trans h2⟩
theorem zero81 (W : World) : (zeroValue 81).run Try.prog W = .ok .nilFunc W := by kernel_rfl
/-- What the map tells of an Op. -/
theorem Built.look (h : Built w W g vs) (op : Int) (hwf : (Lit.int .i64 op).wf = true) : ∃ v, (Instr.lookup 82 (.map (some g)) (.int .i64 op) false).run Try.prog W = .ok v W ∧ ((op ∉ vs.map Prod.fst ∧ v = .nilFunc) ∨ RuleV W v op) := by
  obtain ⟨v, ps, hrun, hv⟩ := h.2.2.1.lookup (e := 81) (zd := .held .nilFunc) (zp := []) key3 Try.underlying82 (zero81 W) rfl (Maps.keyOf_int_mk Try.underlying3 hwf)
  refine ⟨v, hrun, ?_⟩
  have hv' : (DataW.held v : DataW Value) = (mapOf vs).atKey (.int .i64 op) (.held .nilFunc) := by
    unfold rdV at hv
    injection hv with hv
    exact congrArg Prod.fst hv
  rcases at_mapOf hwf (.held .nilFunc) vs with ⟨h1, h2⟩ | ⟨p, hp, h1, h2⟩
  · rw [h2] at hv'
    injection hv' with hv'
    exact .inl ⟨h1, hv'⟩
  · rw [h2] at hv'
    injection hv' with hv'
    right
    have := h.2.2.2 p hp
    rw [h1, ← hv'] at this
    exact this
end
set_option maxHeartbeats 1000000 in
theorem v_below (t p : Int) (fn : Nat) (w : World) : Calls Try.prog 52 #[.int .i64 t, .int .i64 p, .func (.func fn) #[] #[]] w fun e w' => ∃ v, e = .returned v ∧ IsBelow w' v t p fn ∧ Below w.heap.size w w' := by
  go_enter Try.func52, Try.ntmps52
  go_wp2
  go_ret
  refine ⟨_, rfl, ⟨w.heap.size, w.heap.size + 1, w.heap.size + 2, rfl, ?_, ?_, ?_⟩, below_alloc (below_alloc (below_alloc (Below.refl _ _) _) _) _⟩
  · exact blk_alloc (blk_alloc (blk_new w _) _) _
  · exact blk_alloc (blk_new2 w _ _) _
  · have h := blk_new2 (w.alloc (.cells #[.int .i64 t] 3)) (.cells #[.int .i64 p] 3) (.cells #[.func (.func fn) #[] #[]] 101)
    have e : (w.alloc (.cells #[.int .i64 t] 3)).heap.size = w.heap.size + 1 := by simp
    rwa [e] at h
set_option maxHeartbeats 1000000 in
theorem v_fixed (t p : Int) (w : World) : Calls Try.prog 57 #[.int .i64 t, .int .i64 p] w fun e w' => ∃ v, e = .returned v ∧ IsFixed w' v t p ∧ Below w.heap.size w w' := by
  go_enter Try.func57, Try.ntmps57
  go_wp2
  go_ret
  refine ⟨_, rfl, ⟨w.heap.size, w.heap.size + 1, rfl, ?_, ?_⟩, below_alloc (below_alloc (Below.refl _ _) _) _⟩
  · exact blk_alloc (blk_new w _) _
  · exact blk_new2 w _ _
set_option maxHeartbeats 4000000 in
set_option maxRecDepth 100000 in
theorem v_rules (w : World) : Calls Try.prog 37 #[] w fun e w' => ∃ g vs, e = .returned (.map (some g)) ∧ Built w w' g vs ∧ vs.map Prod.fst = [33, 32, 31, 25, 24, 23, 20, 19, 18, 17, 15, 14, 13, 12, 11, 10, 9, 8, 7, 6, 5, 4, 3, 2, 1] := by
  have hmm := @run_makeMap Try.prog
  have HBT := Aside0.mk (Built.new w)
  go_enter Try.func37, Try.ntmps37
  go_wp2_with (first
    | (go_at_call 52; (with_reducible refine (v_below _ _ _ _).mono ?_); rintro e w1 ⟨v, rfl, hv, hb⟩; have HV := Aside0.mk hv; have n0_ := Aside0.mk (HBT.out.below hb); clear HBT; have HBT := n0_; clear n0_ hv hb)
    | (go_at_call 57; (with_reducible refine (v_fixed _ _ _).mono ?_); rintro e w1 ⟨v, rfl, hv, hb⟩; have HV := Aside0.mk hv; have n0_ := Aside0.mk (HBT.out.below hb); clear HBT; have HBT := n0_; clear n0_ hv hb)
    | (refine ins_ rfl (.tmp 3) _ _ rfl rfl _ _ rfl rfl (by decide) HBT.out (by simp) ?_ ?_; (rotate_left); (intro w1 hb; clear HBT; (try clear HV); have HBT := Aside0.mk hb; clear hb); (rotate_left); (first | exact HV.out | rfl)))

  go_ret
  exact ⟨_, _, rfl, HBT.out, rfl⟩
end Go.Proofs.Ytnhipgmphhndhaa.Q
namespace Go.Proofs.Ytnhipgmphhndhaa.Q
open Go.RowKit Go.Proofs.YtnhipgmphhndhaaW.PrintWords Go.Proofs.YtnhipgmphhndhaaW.PrintLast Go.Proofs.YtnhipgmphhndhaaW.PrintMore
set_option linter.unusedVariables false
set_option linter.unusedSectionVars false
set_option linter.unusedSimpArgs false
set_option maxRecDepth 100000
/-! ### what a rule answers -/
section
variable {w0 W : World} {g : Nat} {fs : List S32} {xs : List Int} {ts : List ByteArray} {lets n : Int} {f : S32}
/-- A rule's value: called with the walker and an instruction it tells what is asked. -/
def RuleOk (w0 W : World) (g : Nat) (fs : List S32) (xs : List Int) (ts : List ByteArray) (lets n : Int) (f : S32) (v : Value) (op : Int) : Prop :=
  ∃ F caps, v = .func (.func F) #[] caps ∧ (∀ (args : Array Value) (W : World), (callFunc F args).run Try.prog W = .ok (.enter F args) W) ∧
    ∀ (W1 : World) (i : S37), KeepC W W1 → IsW w0 W1 g fs xs ts lets n f → i.f0 = op → Calls Try.prog F (#[.pointer (some ⟨g, 0, none⟩), .agg #[.int .i64 i.f0, .int .i64 i.f1, .int .i64 i.f2]] ++ caps) W1 fun e w' =>
      e = .returned (.tuple #[.bool (okI fs xs.length ts.length lets n f i), .int .i64 (takesI i), .int .i64 (putsI i)]) ∧ Below W1.heap.size W1 w'
theorem ok_64 {fn : Nat} (hfn : MostF fn) {v : Value} {t p op : Int} (hv : IsBelow W v t p fn) (h1 : ∀ i : S37, i.f0 = op → okI fs xs.length ts.length lets n f i = decide (i.f1 < mostK fn fs xs ts lets f) ∧ takesI i = t ∧ putsI i = p) : RuleOk w0 W g fs xs ts lets n f v op := by
  obtain ⟨g0, g1, g2, rfl, b0, b1, b2⟩ := hv
  refine ⟨64, _, rfl, fun args W => enters_ Try.func64 (by kernel_rfl) rfl args W, fun W1 i hk hI hi => ?_⟩
  obtain ⟨e1, e2, e3⟩ := h1 i hi
  rw [e1, e2, e3]
  exact rule_64 hfn hI i t p g0 g1 g2 (hk _ _ _ _ b0) (hk _ _ _ _ b1) (hk _ _ _ _ b2)
theorem ok_65 {v : Value} {t p op : Int} (hv : IsFixed W v t p) (h1 : ∀ i : S37, i.f0 = op → okI fs xs.length ts.length lets n f i = true ∧ takesI i = t ∧ putsI i = p) : RuleOk w0 W g fs xs ts lets n f v op := by
  obtain ⟨g0, g1, rfl, b0, b1⟩ := hv
  refine ⟨65, _, rfl, fun args W => enters_ Try.func65 (by kernel_rfl) rfl args W, fun W1 i hk hI hi => ?_⟩
  obtain ⟨e1, e2, e3⟩ := h1 i hi
  rw [e1, e2, e3]
  exact rule_65 _ i t p g0 g1 (hk _ _ _ _ b0) (hk _ _ _ _ b1)
theorem RuleV.ok {v : Value} {op : Int} (h : RuleV W v op) : RuleOk w0 W g fs xs ts lets n f v op := by
  unfold RuleV at h
  by_cases h1 : op = 1
  · rw [if_pos h1] at h
    subst h1
    exact ok_64 (.inr (.inr (.inl rfl))) h (fun i hi => by refine ⟨?_, ?_, ?_⟩ <;> simp [okI, takesI, putsI, mostK, hi])
  rw [if_neg h1] at h
  by_cases h2 : op = 2
  · rw [if_pos h2] at h
    subst h2
    exact ok_64 (.inr (.inr (.inr (.inl rfl)))) h (fun i hi => by refine ⟨?_, ?_, ?_⟩ <;> simp [okI, takesI, putsI, mostK, hi])
  rw [if_neg h2] at h
  by_cases h3 : op = 3
  · rw [if_pos h3] at h
    subst h3
    exact ok_64 (.inl rfl) h (fun i hi => by refine ⟨?_, ?_, ?_⟩ <;> simp [okI, takesI, putsI, mostK, hi])
  rw [if_neg h3] at h
  by_cases h4 : op = 4
  · rw [if_pos h4] at h
    subst h4
    exact ok_64 (.inr (.inr (.inr (.inr (.inl rfl))))) h (fun i hi => by refine ⟨?_, ?_, ?_⟩ <;> simp [okI, takesI, putsI, mostK, hi])
  rw [if_neg h4] at h
  by_cases h5 : op = 5
  · rw [if_pos h5] at h
    subst h5
    subst h
    refine ⟨56, _, rfl, fun args W => enters_ Try.func56 (by kernel_rfl) rfl args W, fun W1 i hk hI hi => ?_⟩
    rw [show okI fs xs.length ts.length lets n f i = decide (0 < n) from by simp [okI, hi], show takesI i = 0 from by simp [takesI, hi], show putsI i = 1 from by simp [putsI, hi]]
    exact rule_56 hI i
  rw [if_neg h5] at h
  by_cases h6 : op = 6
  · rw [if_pos h6] at h
    subst h6
    exact ok_64 (.inr (.inl rfl)) h (fun i hi => by refine ⟨?_, ?_, ?_⟩ <;> simp [okI, takesI, putsI, mostK, hi])
  rw [if_neg h6] at h
  by_cases h7 : op = 7
  · rw [if_pos h7] at h
    subst h7
    exact ok_64 (.inl rfl) h (fun i hi => by refine ⟨?_, ?_, ?_⟩ <;> simp [okI, takesI, putsI, mostK, hi])
  rw [if_neg h7] at h
  by_cases h8 : op = 8
  · rw [if_pos h8] at h
    subst h8
    exact ok_64 (.inr (.inl rfl)) h (fun i hi => by refine ⟨?_, ?_, ?_⟩ <;> simp [okI, takesI, putsI, mostK, hi])
  rw [if_neg h8] at h
  by_cases h9 : op = 9
  · rw [if_pos h9] at h
    subst h9
    exact ok_65 h (fun i hi => by refine ⟨?_, ?_, ?_⟩ <;> simp [okI, takesI, putsI, hi])
  rw [if_neg h9] at h
  by_cases h10 : op = 10
  · rw [if_pos h10] at h
    subst h10
    subst h
    refine ⟨58, _, rfl, fun args W => enters_ Try.func58 (by kernel_rfl) rfl args W, fun W1 i hk hI hi => ?_⟩
    rw [show okI fs xs.length ts.length lets n f i = (decide (i.f1 ≤ 199) && (decide (1 ≤ i.f2) && decide (i.f2 ≤ 4))) from by unfold okI; rw [hi]; rfl, show takesI i = i.f2 from by simp [takesI, hi], show putsI i = 1 from by simp [putsI, hi]]
    exact rule_58 _ i
  rw [if_neg h10] at h
  by_cases h11 : op = 11
  · rw [if_pos h11] at h
    subst h11
    subst h
    refine ⟨59, _, rfl, fun args W => enters_ Try.func59 (by kernel_rfl) rfl args W, fun W1 i hk hI hi => ?_⟩
    rw [show okI fs xs.length ts.length lets n f i = (decide (0 < i.f1) && (decide (i.f1 < (fs.length : Int)) && decide ((rd_T32 fs i.f1).f0 = i.f2))) from by unfold okI; rw [hi]; rfl, show takesI i = i.f2 from by simp [takesI, hi], show putsI i = 1 from by simp [putsI, hi]]
    exact rule_59 hI i
  rw [if_neg h11] at h
  by_cases h12 : op = 12
  · rw [if_pos h12] at h
    subst h12
    exact ok_64 (.inr (.inr (.inr (.inr (.inr (.inl rfl)))))) h (fun i hi => by refine ⟨?_, ?_, ?_⟩ <;> simp [okI, takesI, putsI, mostK, hi])
  rw [if_neg h12] at h
  by_cases h13 : op = 13
  · rw [if_pos h13] at h
    subst h13
    exact ok_65 h (fun i hi => by refine ⟨?_, ?_, ?_⟩ <;> simp [okI, takesI, putsI, hi])
  rw [if_neg h13] at h
  by_cases h14 : op = 14
  · rw [if_pos h14] at h
    subst h14
    exact ok_65 h (fun i hi => by refine ⟨?_, ?_, ?_⟩ <;> simp [okI, takesI, putsI, hi])
  rw [if_neg h14] at h
  by_cases h15 : op = 15
  · rw [if_pos h15] at h
    subst h15
    exact ok_65 h (fun i hi => by refine ⟨?_, ?_, ?_⟩ <;> simp [okI, takesI, putsI, hi])
  rw [if_neg h15] at h
  by_cases h17 : op = 17
  · rw [if_pos h17] at h
    subst h17
    exact ok_65 h (fun i hi => by refine ⟨?_, ?_, ?_⟩ <;> simp [okI, takesI, putsI, hi])
  rw [if_neg h17] at h
  by_cases h18 : op = 18
  · rw [if_pos h18] at h
    subst h18
    exact ok_65 h (fun i hi => by refine ⟨?_, ?_, ?_⟩ <;> simp [okI, takesI, putsI, hi])
  rw [if_neg h18] at h
  by_cases h19 : op = 19
  · rw [if_pos h19] at h
    subst h19
    exact ok_64 (.inr (.inr (.inr (.inr (.inr (.inr rfl)))))) h (fun i hi => by refine ⟨?_, ?_, ?_⟩ <;> simp [okI, takesI, putsI, mostK, hi])
  rw [if_neg h19] at h
  by_cases h20 : op = 20
  · rw [if_pos h20] at h
    subst h20
    exact ok_65 h (fun i hi => by refine ⟨?_, ?_, ?_⟩ <;> simp [okI, takesI, putsI, hi])
  rw [if_neg h20] at h
  by_cases h23 : op = 23
  · rw [if_pos h23] at h
    subst h23
    exact ok_65 h (fun i hi => by refine ⟨?_, ?_, ?_⟩ <;> simp [okI, takesI, putsI, hi])
  rw [if_neg h23] at h
  by_cases h24 : op = 24
  · rw [if_pos h24] at h
    subst h24
    exact ok_65 h (fun i hi => by refine ⟨?_, ?_, ?_⟩ <;> simp [okI, takesI, putsI, hi])
  rw [if_neg h24] at h
  by_cases h25 : op = 25
  · rw [if_pos h25] at h
    subst h25
    exact ok_65 h (fun i hi => by refine ⟨?_, ?_, ?_⟩ <;> simp [okI, takesI, putsI, hi])
  rw [if_neg h25] at h
  by_cases h31 : op = 31
  · rw [if_pos h31] at h
    subst h31
    exact ok_65 h (fun i hi => by refine ⟨?_, ?_, ?_⟩ <;> simp [okI, takesI, putsI, hi])
  rw [if_neg h31] at h
  by_cases h32 : op = 32
  · rw [if_pos h32] at h
    subst h32
    exact ok_65 h (fun i hi => by refine ⟨?_, ?_, ?_⟩ <;> simp [okI, takesI, putsI, hi])
  rw [if_neg h32] at h
  by_cases h33 : op = 33
  · rw [if_pos h33] at h
    subst h33
    exact ok_65 h (fun i hi => by refine ⟨?_, ?_, ?_⟩ <;> simp [okI, takesI, putsI, hi])
  rw [if_neg h33] at h
  exact h.elim
theorem no_rule {i : S37} (h1 : 1 ≤ i.f0) (h : i.f0 ∉ [(33 : Int), 32, 31, 25, 24, 23, 20, 19, 18, 17, 15, 14, 13, 12, 11, 10, 9, 8, 7, 6, 5, 4, 3, 2, 1]) : okI fs xs.length ts.length lets n f i = true ∧ takesI i = 0 ∧ putsI i = 0 := by
  simp only [List.mem_cons, List.not_mem_nil, or_false, not_or] at h
  obtain ⟨_, _, _, _, _, _, _, _, _, _, _, _, _, _, _, _, _, _, _, _, _, _, _, _, _⟩ := h
  refine ⟨?_, ?_, ?_⟩
  · unfold okI
    simp [*]
  · unfold takesI
    simp [*]
  · unfold putsI
    rw [if_neg (by omega)]
end
end Go.Proofs.Ytnhipgmphhndhaa.Q
namespace Go.Proofs.Ytnhipgmphhndhaa.Q
open Go.RowKit Go.Proofs.YtnhipgmphhndhaaW.PrintWords Go.Proofs.YtnhipgmphhndhaaW.PrintLast Go.Proofs.YtnhipgmphhndhaaW.PrintMore
set_option linter.unusedVariables false
set_option linter.unusedSectionVars false
set_option linter.unusedSimpArgs false
set_option maxRecDepth 100000
/-! ### (*walker).next: what every way begins with -/
theorem base_f {d : Int} {m : List S89} (hm : m.length ≤ 1000000) : verify_state_base.f d m = some (bse m) := by
  unfold verify_state_base.f bse
  by_cases h : 0 < m.length
  · rw [if_pos (by omega), if_pos h, wn _ (m.length - 1) (by omega) (by omega), if_pos (by omega), if_pos (by omega)]
  · rw [if_neg (by omega), if_neg h]
theorem any_l0 (m : List S89) (hm : m.length ≤ 1000000) : ∀ (k i : Nat), i + k = m.length → ∃ r, Ev (fun q => verify_mark_62.l0 q m (m.length : Int) (i : Int)) r ∧ (0 ≤ r ↔ (m.drop i).any (fun x => x.f0 == 26) = true) := by
  intro k
  induction k with
  | zero =>
    intro i hi
    refine ⟨-1, Ev.step (f := fun _ => some (-1)) (fun q => by rw [verify_mark_62.l0, if_neg (by omega)]) (Ev.now _), ?_⟩
    rw [List.drop_eq_nil_of_le (by omega)]
    simp
  | succ k ih =>
    intro i hi
    obtain ⟨r, h1, h2⟩ := ih (i + 1) (by omega)
    have hlt : i < m.length := by omega
    have e1 : rd_T89 m (i : Int) = m[i] := by unfold rd_T89; rw [Int.toNat_natCast, List.getD_eq_getElem?_getD, List.getElem?_eq_getElem hlt]; rfl
    have e2 : m.drop i = m[i] :: m.drop (i + 1) := (List.drop_eq_getElem_cons hlt)
    by_cases h : (m[i]).f0 = 26
    · refine ⟨(i : Int), Ev.step (f := fun _ => some (i : Int)) (fun q => by rw [verify_mark_62.l0, if_pos (by omega), if_pos (by omega), if_pos (by omega), e1]; unfold verify_walker_next_1.f; rw [h]; rfl) (Ev.now _), ?_⟩
      rw [e2, List.any_cons, h]
      simp
    · refine ⟨r, Ev.step (f := fun q => verify_mark_62.l0 q m (m.length : Int) ((i + 1 : Nat) : Int)) (fun q => by
        rw [verify_mark_62.l0, if_pos (by omega), if_pos (by omega), if_pos (by omega), e1, wn _ (i + 1) (by omega) (by omega)]
        unfold verify_walker_next_1.f
        rw [beq_eq_false_iff_ne.mpr h]
        rfl) h1, ?_⟩
      rw [e2, List.any_cons, beq_eq_false_iff_ne.mpr h, Bool.false_or]
      exact h2
theorem any_ev (m : List S89) (hm : m.length ≤ 1000000) : Ev (fun q => verify_mark_41.f q m) (m.any (fun x => x.f0 == 26)) := by
  obtain ⟨r, h1, h2⟩ := any_l0 m hm m.length 0 (by omega)
  have hr : m.any (fun x => x.f0 == 26) = decide (r ≥ 0) := by
    rw [List.drop_zero] at h2
    cases hx : m.any (fun x => x.f0 == 26)
    · rw [hx] at h2
      exact (decide_eq_false (by simpa using h2)).symm
    · rw [hx] at h2
      exact (decide_eq_true (h2.2 rfl)).symm
  rw [hr]
  refine Ev.congr (f := fun q => (verify_mark_62.l0 q m (m.length : Int) ((0 : Nat) : Int)).bind fun t169 => some (decide (t169 ≥ 0))) (fun q => rfl) ?_
  exact Ev.bind h1 (Ev.now _)
end Go.Proofs.Ytnhipgmphhndhaa.Q
