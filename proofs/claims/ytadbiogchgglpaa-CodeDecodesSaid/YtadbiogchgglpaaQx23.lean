-- PRINTED by print.py (a twelfth state) out of the translation. Not trusted: Lean checks it.
import Derived.Test.YtadbiogchgglpaaQx0
import Derived.Test.YtadbiogchgglpaaQx9
import Derived.Test.YtadbiogchgglpaaHnext
namespace Go.Proofs.Ytadbiogchgglpaa.Q
open Go.RowKit Go.Proofs.YtadbiogchgglpaaW.PrintWords Go.Proofs.YtadbiogchgglpaaW.PrintLast Go.Proofs.YtadbiogchgglpaaW.PrintMore
attribute [local go_sem] max2_int min2_int max_two min_two max_three min_three max_four min_four   -- for this text's walks alone
set_option linter.unusedVariables false
set_option linter.unusedSimpArgs false

/-- A state of type 60 at block g of W; what its slices lead to came in by w0. -/
def I6 (w0 W : World) (g : Nat) (f0 : List Int) (f1 : Int) (f2 : Bool) : Prop := ∃ A0 c0, W.heap[g]? = some (.cells #[.slice A0 f0.length c0, .int .i64 f1, .bool f2] 60 (0, 0)) ∧ w0.heap.size ≤ g ∧ Kd.C (Kd.int .u8) w0 A0 f0.length f0
theorem I6.grown {w0 W : World} {g : Nat} {f0 : List Int} {f1 : Int} {f2 : Bool} {W1 : World} {row : Option Nat} (h : I6 w0 W g f0 f1 f2) (hw : W.grownBy W1 row) (hne : some g ≠ row) : I6 w0 W1 g f0 f1 f2 := by
 obtain ⟨A0, c0, hb, hg, hr0⟩ := h
 exact ⟨A0, c0, blk_grown hb hw hne, hg, hr0⟩
theorem I6.own_neN {w0 W : World} {g : Nat} {f0 : List Int} {f1 : Int} {f2 : Bool} {α : Type} {d : Kd α} {e : Nat} {base : Nat} {ok : Nat → Prop} {v : Value} {xs : List α} (h : I6 w0 W g f0 f1 f2) (ho : Kd.N d e W base ok v xs) (ht : e ≠ 60) : some g ≠ v.ownBlock := by
 obtain ⟨A0, c0, hb, hg, hr0⟩ := h
 exact Kd.N_ne ho hb ht
theorem I6.fresh {w0 W : World} {g : Nat} {f0 : List Int} {f1 : Int} {f2 : Bool} (h : I6 w0 W g f0 f1 f2) : ∀ k, W.heap.size ≤ k → k ≠ g := by
 obtain ⟨A0, c0, hb, hg, hr0⟩ := h
 exact Kd.freshB hb
theorem I6.kept {w0 W : World} {g : Nat} {f0 : List Int} {f1 : Int} {f2 : Bool} {W1 : World} {S : Nat → Prop} (h : I6 w0 W g f0 f1 f2) (hk : Kept W W1 S) (hne : ¬ S g) : I6 w0 W1 g f0 f1 f2 := by
 obtain ⟨A0, c0, hb, hg, hr0⟩ := h
 exact ⟨A0, c0, blk_kept hb hk hne, hg, hr0⟩
theorem I6.below {w0 W : World} {g : Nat} {f0 : List Int} {f1 : Int} {f2 : Bool} {W1 : World} (h : I6 w0 W g f0 f1 f2) (hw : Below W.heap.size W W1) : I6 w0 W1 g f0 f1 f2 := h.grown (grown_of_below hw none) (by simp)
theorem I6.alloc {w0 W : World} {g : Nat} {f0 : List Int} {f1 : Int} {f2 : Bool} (h : I6 w0 W g f0 f1 f2) (o : Obj) : I6 w0 (W.alloc o) g f0 f1 f2 := h.below (bA (Below.refl _ _) o)
theorem I6.drewN {w0 W : World} {g : Nat} {f0 : List Int} {f1 : Int} {f2 : Bool} (h : I6 w0 W g f0 f1 f2) (m : Nat) : I6 w0 (W.drewN m) g f0 f1 f2 := h
theorem I6.drew {w0 W : World} {g : Nat} {f0 : List Int} {f1 : Int} {f2 : Bool} (h : I6 w0 W g f0 f1 f2) : I6 w0 W.drew g f0 f1 f2 := h
theorem I6.at_ {w0 W : World} {g : Nat} {f0 : List Int} {f1 : Int} {f2 : Bool} {w' : World} {m : Nat} (hq : W.drewN m = w') (h : I6 w0 W g f0 f1 f2) : I6 w0 w' g f0 f1 f2 := by subst hq; exact I6.drewN h m
theorem I6.apart {w0 W : World} {g : Nat} {f0 : List Int} {f1 : Int} {f2 : Bool} {α : Type} {d : Kd α} {e : Nat} {base : Nat} {ok : Nat → Prop} {v : Value} {xs : List α} (h : I6 w0 W g f0 f1 f2) (ho : d.R e W base ok v xs) (ht : ∀ q, q ∈ e :: d.E → q ≠ 60) : d.R e W base (fun k => ok k ∧ k ≠ g) v xs := by
 obtain ⟨A0, c0, hb, hg, hr0⟩ := h
 exact Kd.R_types ho hb ht
theorem I6.own_ne {w0 W : World} {g : Nat} {f0 : List Int} {f1 : Int} {f2 : Bool} {α : Type} {d : Kd α} {e : Nat} {base : Nat} {ok : Nat → Prop} {v : Value} {xs : List α} (h : I6 w0 W g f0 f1 f2) (ho : d.R e W base ok v xs) (ht : e ≠ 60) : some g ≠ v.ownBlock := by
 obtain ⟨A0, c0, hb, hg, hr0⟩ := h
 exact Kd.R_ne ho hb ht
theorem I6.apartQ {w0 W : World} {g : Nat} {f0 : List Int} {f1 : Int} {f2 : Bool} {α : Type} {d : Kd α} {e : Nat} {base : Nat} {ok : Nat → Prop} {v : Value} {xs : List α} (h : I6 w0 W g f0 f1 f2) (ho : d.Q e W base ok v xs) (ht : ∀ q, q ∈ e :: d.E → q ≠ 60) : d.Q e W base (fun k => ok k ∧ k ≠ g) v xs := by
 obtain ⟨A0, c0, hb, hg, hr0⟩ := h
 exact Kd.Q_types ho hb ht
theorem I6.own_neQ {w0 W : World} {g : Nat} {f0 : List Int} {f1 : Int} {f2 : Bool} {α : Type} {d : Kd α} {e : Nat} {base : Nat} {ok : Nat → Prop} {v : Value} {xs : List α} (h : I6 w0 W g f0 f1 f2) (ho : d.Q e W base ok v xs) (ht : e ≠ 60) : some g ≠ v.ownBlock := by
 obtain ⟨A0, c0, hb, hg, hr0⟩ := h
 exact Kd.Q_ne ho hb ht
theorem I6.apartS {w0 W : World} {g : Nat} {f0 : List Int} {f1 : Int} {f2 : Bool} {α : Type} {d : Kd α} {e : Nat} {base : Nat} {ok : Nat → Prop} {v : Value} {xs : List α} (h : I6 w0 W g f0 f1 f2) (ho : d.S e W base ok v xs) (ht : ∀ q, q ∈ e :: d.E → q ≠ 60) : d.S e W base (fun k => ok k ∧ k ≠ g) v xs := by
 obtain ⟨A0, c0, hb, hg, hr0⟩ := h
 exact Kd.S_types ho hb ht
theorem I6.own_neS {w0 W : World} {g : Nat} {f0 : List Int} {f1 : Int} {f2 : Bool} {α : Type} {d : Kd α} {e : Nat} {base : Nat} {ok : Nat → Prop} {v : Value} {xs : List α} (h : I6 w0 W g f0 f1 f2) (ho : d.S e W base ok v xs) (ht : e ≠ 60) : some g ≠ v.ownBlock := by
 obtain ⟨A0, c0, hb, hg, hr0⟩ := h
 exact Kd.S_ne ho hb ht
theorem I6.lt {w0 W : World} {g : Nat} {f0 : List Int} {f1 : Int} {f2 : Bool} (h : I6 w0 W g f0 f1 f2) : g < W.heap.size := by
 obtain ⟨A0, c0, hb, hg, hr0⟩ := h
 exact blk_lt hb
theorem I6.ge {w0 W : World} {g : Nat} {f0 : List Int} {f1 : Int} {f2 : Bool} (h : I6 w0 W g f0 f1 f2) : w0.heap.size ≤ g := by
 obtain ⟨A0, c0, hb, hg, hr0⟩ := h
 exact hg
theorem I6.ne_blk {w0 W : World} {g : Nat} {f0 : List Int} {f1 : Int} {f2 : Bool} {a : Nat} {cs : Array Value} {t : TypeId} {fr : Nat × Nat} (h : I6 w0 W g f0 f1 f2) (hb2 : W.heap[a]? = some (.cells cs t fr)) (ht : t ≠ 60) : g ≠ a := by
 obtain ⟨A0, c0, hb, hg, hr0⟩ := h
 rintro rfl
 rw [hb] at hb2
 injection hb2 with hb2
 injection hb2 with _ ht2
 exact ht ht2.symm
theorem I6.far {w0 W : World} {g : Nat} {f0 : List Int} {f1 : Int} {f2 : Bool} {p : Addr} (h : I6 w0 W g f0 f1 f2) (hne : g ≠ p.block) (u : Value) : I6 w0 (W.setCell p u) g f0 f1 f2 := by
 obtain ⟨A0, c0, hb, hg, hr0⟩ := h
 exact ⟨A0, c0, blk_far hb hne u, hg, hr0⟩
theorem cellS60_0 {W : World} {g : Nat} {A0 : Option Addr} {c0 : Nat} {f0 : List Int} {f1 : Int} {f2 : Bool} (h : W.heap[g]? = some (.cells #[.slice A0 f0.length c0, .int .i64 f1, .bool f2] 60 (0, 0))) : W.cell? ⟨g, 0, none⟩ = some (.slice A0 f0.length c0) := (kC h 0).trans rfl
theorem cellS60_1 {W : World} {g : Nat} {A0 : Option Addr} {c0 : Nat} {f0 : List Int} {f1 : Int} {f2 : Bool} (h : W.heap[g]? = some (.cells #[.slice A0 f0.length c0, .int .i64 f1, .bool f2] 60 (0, 0))) : W.cell? ⟨g, 1, none⟩ = some (.int .i64 f1) := (kC h 1).trans rfl
theorem I6.set_1 {w0 W : World} {g : Nat} {f0 : List Int} {f1 : Int} {f2 : Bool} (h : I6 w0 W g f0 f1 f2) (x : Int) : I6 w0 (W.setCell ⟨g, 1, none⟩ (.int .i64 x)) g f0 x f2 := by
 obtain ⟨A0, c0, hb, hg, hr0⟩ := h
 exact ⟨A0, c0, by simpa using blk_set hb 1 (.int .i64 x), hg, hr0⟩
theorem cellS60_2 {W : World} {g : Nat} {A0 : Option Addr} {c0 : Nat} {f0 : List Int} {f1 : Int} {f2 : Bool} (h : W.heap[g]? = some (.cells #[.slice A0 f0.length c0, .int .i64 f1, .bool f2] 60 (0, 0))) : W.cell? ⟨g, 2, none⟩ = some (.bool f2) := (kC h 2).trans rfl
theorem I6.set_2 {w0 W : World} {g : Nat} {f0 : List Int} {f1 : Int} {f2 : Bool} (h : I6 w0 W g f0 f1 f2) (x : Bool) : I6 w0 (W.setCell ⟨g, 2, none⟩ (.bool x)) g f0 f1 x := by
 obtain ⟨A0, c0, hb, hg, hr0⟩ := h
 exact ⟨A0, c0, by simpa using blk_set hb 2 (.bool x), hg, hr0⟩
theorem I6.new (w0 W : World) (A0 : Option Addr) (c0 : Nat) (f0 : List Int) (f1 : Int) (f2 : Bool) (hB : Below w0.heap.size w0 W) (hr0 : Kd.C (Kd.int .u8) w0 A0 f0.length f0) : I6 w0 (W.alloc (.cells #[.slice A0 f0.length c0, .int .i64 f1, .bool f2] 60)) W.heap.size f0 f1 f2 := ⟨A0, c0, by simpa using heap_alloc_new W _, hB.size, hr0⟩

/-! ### cD: function 19 -/
mutual
def cD.l0 : Nat → Int → Int → List Int → Int → Bool → List Int → Int → Option ((List (S40)) × List Int × List ByteArray × Int × Int)
 | 0, _, _, _, _, _, _, _ => none
 | k + 1, x32, x33, x394000, x394001, x394002, x398001, x398003 => if x33 < x32 then ((cD1.f 8 x394000 x394001 x394002).bind fun bt401 => (if x398001.length < 17592186044416 then (cD.l0 k x32 (wrap64 (x33 + 1)) x394000 bt401.2.1 bt401.2.2 (x398001 ++ [bt401.1]) x398003) else (none))) else ((cD1.f 1 x394000 x394001 x394002).bind fun bt407 => (cD.l1 k bt407.1 0 x394000 bt407.2.1 bt407.2.2 x398001 ([] : List ByteArray) x398003))
def cD.l1 : Nat → Int → Int → List Int → Int → Bool → List Int → List ByteArray → Int → Option ((List (S40)) × List Int × List ByteArray × Int × Int)
 | 0, _, _, _, _, _, _, _, _ => none
 | k + 1, x44, x45, x394000, x394001, x394002, x398001, x398002, x398003 => if x45 < x44 then ((cD1.f 1 x394000 x394001 x394002).bind fun bt410 => (cD.l2 k ([] : List Int) x44 x45 bt410.1 0 x394000 bt410.2.1 bt410.2.2 x398001 x398002 x398003)) else ((cD1.f 1 x394000 x394001 x394002).bind fun bt422 => (cD.l3 k bt422.1 0 x394000 bt422.2.1 bt422.2.2 ([] : List (S40)) x398001 x398002 x398003))
def cD.l2 : Nat → List Int → Int → Int → Int → Int → List Int → Int → Bool → List Int → List ByteArray → Int → Option ((List (S40)) × List Int × List ByteArray × Int × Int)
 | 0, _, _, _, _, _, _, _, _, _, _, _ => none
 | k + 1, x8, x44, x45, x48, x49, x394000, x394001, x394002, x398001, x398002, x398003 => if x49 < x48 then ((cD1.f 1 x394000 x394001 x394002).bind fun bt413 => (if x8.length < 140737488355328 then (cD.l2 k (x8 ++ [(bt413.1) % 256]) x44 x45 x48 (wrap64 (x49 + 1)) x394000 bt413.2.1 bt413.2.2 x398001 x398002 x398003) else (none))) else (if x398002.length < 8796093022208 then (cD.l1 k x44 (wrap64 (x45 + 1)) x394000 x394001 x394002 x398001 (x398002 ++ [strOfNums x8]) x398003) else (none))
def cD.l3 : Nat → Int → Int → List Int → Int → Bool → List (S40) → List Int → List ByteArray → Int → Option ((List (S40)) × List Int × List ByteArray × Int × Int)
 | 0, _, _, _, _, _, _, _, _, _ => none
 | k + 1, x67, x68, x394000, x394001, x394002, x398000, x398001, x398002, x398003 => if x68 < x67 then ((cD1.f 1 x394000 x394001 x394002).bind fun bt426 => ((cD1.f 1 x394000 bt426.2.1 bt426.2.2).bind fun bt429 => ((cD1.f 1 x394000 bt429.2.1 bt429.2.2).bind fun bt432 => ((cD1.f 2 x394000 bt432.2.1 bt432.2.2).bind fun bt436 => (cD.l4 k x67 x68 bt436.1 0 x394000 bt436.2.1 bt436.2.2 x398000 x398001 x398002 x398003 bt426.1 bt429.1 bt432.1 ([] : List (S42))))))) else (if x394002 = true then (some (([] : List (S40)), ([] : List Int), ([] : List ByteArray), 0, 31)) else (if ((x394000.drop (x394001).toNat).length : Int) > 0 then (some (([] : List (S40)), ([] : List Int), ([] : List ByteArray), 0, 31)) else ((code_May.f k x398000 x398001 x398002 x398003).bind fun t425 => (if t425 = true then (some (x398000, x398001, x398002, x398003, 0)) else (some (([] : List (S40)), ([] : List Int), ([] : List ByteArray), 0, 31))))))
def cD.l4 : Nat → Int → Int → Int → Int → List Int → Int → Bool → List (S40) → List Int → List ByteArray → Int → Int → Int → Int → List (S42) → Option ((List (S40)) × List Int × List ByteArray × Int × Int)
 | 0, _, _, _, _, _, _, _, _, _, _, _, _, _, _, _ => none
 | k + 1, x67, x68, x78, x79, x394000, x394001, x394002, x398000, x398001, x398002, x398003, x436000, x436001, x436002, x436003 => if x79 < x78 then (if x394002 = true then (if x398000.length < 2932031007402 then (cD.l3 k x67 (wrap64 (x68 + 1)) x394000 x394001 x394002 (x398000 ++ [(⟨x436000, x436001, x436002, x436003⟩ : S40)]) x398001 x398002 x398003) else (none)) else ((cD1.f 1 x394000 x394001 x394002).bind fun bt445 => ((cD1.f 2 x394000 bt445.2.1 bt445.2.2).bind fun bt448 => ((cD1.f 2 x394000 bt448.2.1 bt448.2.2).bind fun bt451 => (if x436003.length < 5864062014805 then (cD.l4 k x67 x68 x78 (wrap64 (x79 + 1)) x394000 bt451.2.1 bt451.2.2 x398000 x398001 x398002 x398003 x436000 x436001 x436002 (x436003 ++ [(⟨bt445.1, bt448.1, bt451.1⟩ : S42)])) else (none)))))) else (if x398000.length < 2932031007402 then (cD.l3 k x67 (wrap64 (x68 + 1)) x394000 x394001 x394002 (x398000 ++ [(⟨x436000, x436001, x436002, x436003⟩ : S40)]) x398001 x398002 x398003) else (none))
end
def cD.f (k : Nat) (l0 : List Int) : Option ((List (S40)) × List Int × List ByteArray × Int × Int) := (cD1.f 1 l0 (startI l0) (startS l0)).bind fun bt394 => ((cD1.f 1 l0 bt394.2.1 bt394.2.2).bind fun bt398 => (cD.l0 k bt398.1 0 l0 bt398.2.1 bt398.2.2 ([] : List Int) bt394.1))
theorem cD.mono_l : ∀ k, (∀ y0 y1 y2 y3 y4 y5 y6, LeO (cD.l0 k y0 y1 y2 y3 y4 y5 y6) (cD.l0 (k + 1) y0 y1 y2 y3 y4 y5 y6)) ∧ (∀ y0 y1 y2 y3 y4 y5 y6 y7, LeO (cD.l1 k y0 y1 y2 y3 y4 y5 y6 y7) (cD.l1 (k + 1) y0 y1 y2 y3 y4 y5 y6 y7)) ∧ (∀ y0 y1 y2 y3 y4 y5 y6 y7 y8 y9 y10, LeO (cD.l2 k y0 y1 y2 y3 y4 y5 y6 y7 y8 y9 y10) (cD.l2 (k + 1) y0 y1 y2 y3 y4 y5 y6 y7 y8 y9 y10)) ∧ (∀ y0 y1 y2 y3 y4 y5 y6 y7 y8, LeO (cD.l3 k y0 y1 y2 y3 y4 y5 y6 y7 y8) (cD.l3 (k + 1) y0 y1 y2 y3 y4 y5 y6 y7 y8)) ∧ (∀ y0 y1 y2 y3 y4 y5 y6 y7 y8 y9 y10 y11 y12 y13 y14, LeO (cD.l4 k y0 y1 y2 y3 y4 y5 y6 y7 y8 y9 y10 y11 y12 y13 y14) (cD.l4 (k + 1) y0 y1 y2 y3 y4 y5 y6 y7 y8 y9 y10 y11 y12 y13 y14))
 | 0 => ⟨fun _ _ _ _ _ _ _ r h => by simp [cD.l0] at h, fun _ _ _ _ _ _ _ _ r h => by simp [cD.l1] at h, fun _ _ _ _ _ _ _ _ _ _ _ r h => by simp [cD.l2] at h, fun _ _ _ _ _ _ _ _ _ r h => by simp [cD.l3] at h, fun _ _ _ _ _ _ _ _ _ _ _ _ _ _ _ r h => by simp [cD.l4] at h⟩
 | k + 1 => by
  obtain ⟨ih0, ih1, ih2, ih3, ih4⟩ := cD.mono_l k
  refine ⟨?_, ?_, ?_, ?_, ?_⟩
  ·intro y0 y1 y2 y3 y4 y5 y6
   unfold cD.l0
   repeat' first
   | (with_reducible exact ih0 _ _ _ _ _ _ _)
   | (with_reducible exact ih1 _ _ _ _ _ _ _ _)
   | (with_reducible exact ih2 _ _ _ _ _ _ _ _ _ _ _)
   | (with_reducible exact ih3 _ _ _ _ _ _ _ _ _)
   | (with_reducible exact ih4 _ _ _ _ _ _ _ _ _ _ _ _ _ _ _)
   | (with_reducible exact code_May.mono _ _ _ _ _)
   | (with_reducible exact LeO.refl _)
   | (with_reducible exact LeO.none _)
   | (with_reducible refine LeO.ite ?_ ?_)
   | (with_reducible refine LeO.bind ?_ (fun _ => ?_))
   | exact ih0 _ _ _ _ _ _ _
   | exact ih1 _ _ _ _ _ _ _ _
   | exact ih2 _ _ _ _ _ _ _ _ _ _ _
   | exact ih3 _ _ _ _ _ _ _ _ _
   | exact ih4 _ _ _ _ _ _ _ _ _ _ _ _ _ _ _
   | exact code_May.mono _ _ _ _ _
   | exact LeO.none _
   | refine LeO.ite ?_ ?_
   | refine LeO.bind ?_ (fun _ => ?_)
  ·intro y0 y1 y2 y3 y4 y5 y6 y7
   unfold cD.l1
   repeat' first
   | (with_reducible exact ih0 _ _ _ _ _ _ _)
   | (with_reducible exact ih1 _ _ _ _ _ _ _ _)
   | (with_reducible exact ih2 _ _ _ _ _ _ _ _ _ _ _)
   | (with_reducible exact ih3 _ _ _ _ _ _ _ _ _)
   | (with_reducible exact ih4 _ _ _ _ _ _ _ _ _ _ _ _ _ _ _)
   | (with_reducible exact code_May.mono _ _ _ _ _)
   | (with_reducible exact LeO.refl _)
   | (with_reducible exact LeO.none _)
   | (with_reducible refine LeO.ite ?_ ?_)
   | (with_reducible refine LeO.bind ?_ (fun _ => ?_))
   | exact ih0 _ _ _ _ _ _ _
   | exact ih1 _ _ _ _ _ _ _ _
   | exact ih2 _ _ _ _ _ _ _ _ _ _ _
   | exact ih3 _ _ _ _ _ _ _ _ _
   | exact ih4 _ _ _ _ _ _ _ _ _ _ _ _ _ _ _
   | exact code_May.mono _ _ _ _ _
   | exact LeO.none _
   | refine LeO.ite ?_ ?_
   | refine LeO.bind ?_ (fun _ => ?_)
  ·intro y0 y1 y2 y3 y4 y5 y6 y7 y8 y9 y10
   unfold cD.l2
   repeat' first
   | (with_reducible exact ih0 _ _ _ _ _ _ _)
   | (with_reducible exact ih1 _ _ _ _ _ _ _ _)
   | (with_reducible exact ih2 _ _ _ _ _ _ _ _ _ _ _)
   | (with_reducible exact ih3 _ _ _ _ _ _ _ _ _)
   | (with_reducible exact ih4 _ _ _ _ _ _ _ _ _ _ _ _ _ _ _)
   | (with_reducible exact code_May.mono _ _ _ _ _)
   | (with_reducible exact LeO.refl _)
   | (with_reducible exact LeO.none _)
   | (with_reducible refine LeO.ite ?_ ?_)
   | (with_reducible refine LeO.bind ?_ (fun _ => ?_))
   | exact ih0 _ _ _ _ _ _ _
   | exact ih1 _ _ _ _ _ _ _ _
   | exact ih2 _ _ _ _ _ _ _ _ _ _ _
   | exact ih3 _ _ _ _ _ _ _ _ _
   | exact ih4 _ _ _ _ _ _ _ _ _ _ _ _ _ _ _
   | exact code_May.mono _ _ _ _ _
   | exact LeO.none _
   | refine LeO.ite ?_ ?_
   | refine LeO.bind ?_ (fun _ => ?_)
  ·intro y0 y1 y2 y3 y4 y5 y6 y7 y8
   unfold cD.l3
   repeat' first
   | (with_reducible exact ih0 _ _ _ _ _ _ _)
   | (with_reducible exact ih1 _ _ _ _ _ _ _ _)
   | (with_reducible exact ih2 _ _ _ _ _ _ _ _ _ _ _)
   | (with_reducible exact ih3 _ _ _ _ _ _ _ _ _)
   | (with_reducible exact ih4 _ _ _ _ _ _ _ _ _ _ _ _ _ _ _)
   | (with_reducible exact code_May.mono _ _ _ _ _)
   | (with_reducible exact LeO.refl _)
   | (with_reducible exact LeO.none _)
   | (with_reducible refine LeO.ite ?_ ?_)
   | (with_reducible refine LeO.bind ?_ (fun _ => ?_))
   | exact ih0 _ _ _ _ _ _ _
   | exact ih1 _ _ _ _ _ _ _ _
   | exact ih2 _ _ _ _ _ _ _ _ _ _ _
   | exact ih3 _ _ _ _ _ _ _ _ _
   | exact ih4 _ _ _ _ _ _ _ _ _ _ _ _ _ _ _
   | exact code_May.mono _ _ _ _ _
   | exact LeO.none _
   | refine LeO.ite ?_ ?_
   | refine LeO.bind ?_ (fun _ => ?_)
  intro y0 y1 y2 y3 y4 y5 y6 y7 y8 y9 y10 y11 y12 y13 y14
  unfold cD.l4
  repeat' first
  | (with_reducible exact ih0 _ _ _ _ _ _ _)
  | (with_reducible exact ih1 _ _ _ _ _ _ _ _)
  | (with_reducible exact ih2 _ _ _ _ _ _ _ _ _ _ _)
  | (with_reducible exact ih3 _ _ _ _ _ _ _ _ _)
  | (with_reducible exact ih4 _ _ _ _ _ _ _ _ _ _ _ _ _ _ _)
  | (with_reducible exact code_May.mono _ _ _ _ _)
  | (with_reducible exact LeO.refl _)
  | (with_reducible exact LeO.none _)
  | (with_reducible refine LeO.ite ?_ ?_)
  | (with_reducible refine LeO.bind ?_ (fun _ => ?_))
  | exact ih0 _ _ _ _ _ _ _
  | exact ih1 _ _ _ _ _ _ _ _
  | exact ih2 _ _ _ _ _ _ _ _ _ _ _
  | exact ih3 _ _ _ _ _ _ _ _ _
  | exact ih4 _ _ _ _ _ _ _ _ _ _ _ _ _ _ _
  | exact code_May.mono _ _ _ _ _
  | exact LeO.none _
  | refine LeO.ite ?_ ?_
  | refine LeO.bind ?_ (fun _ => ?_)
theorem cD.mono : ∀ a0 k, LeO (cD.f k a0) (cD.f (k + 1) a0) := by
 intro a0 k
 obtain ⟨ih0, ih1, ih2, ih3, ih4⟩ := cD.mono_l k
 unfold cD.f
 repeat' first
   | (with_reducible exact ih0 _ _ _ _ _ _ _)
   | (with_reducible exact ih1 _ _ _ _ _ _ _ _)
   | (with_reducible exact ih2 _ _ _ _ _ _ _ _ _ _ _)
   | (with_reducible exact ih3 _ _ _ _ _ _ _ _ _)
   | (with_reducible exact ih4 _ _ _ _ _ _ _ _ _ _ _ _ _ _ _)
   | (with_reducible exact code_May.mono _ _ _ _ _)
   | (with_reducible exact LeO.refl _)
   | (with_reducible exact LeO.none _)
   | (with_reducible refine LeO.ite ?_ ?_)
   | (with_reducible refine LeO.bind ?_ (fun _ => ?_))
   | exact ih0 _ _ _ _ _ _ _
   | exact ih1 _ _ _ _ _ _ _ _
   | exact ih2 _ _ _ _ _ _ _ _ _ _ _
   | exact ih3 _ _ _ _ _ _ _ _ _
   | exact ih4 _ _ _ _ _ _ _ _ _ _ _ _ _ _ _
   | exact code_May.mono _ _ _ _ _
   | exact LeO.none _
   | refine LeO.ite ?_ ?_
   | refine LeO.bind ?_ (fun _ => ?_)
def cD.T7 : Bool × List (List Nat × List Nat) := (true, [([], []), ([0], [0]), ([], []), ([2], [2]), ([3], [3]), ([1, 4, 3], [1, 4]), ([0, 1, 2, 3, 4, 5], []), ([6, 5, 5, 0, 1, 2, 3, 4, 5], [5, 6])])
def cD.B7 : List Nat := [0, 1, 0, 4, 12, 31, 63, 127]
theorem cD.tab7 : rtab .any (opsOf Try.f19 7) = cD.T7 := by kernel_rfl
theorem cD.bits7 : waitsOk cD.T7.2 cD.B7 = true := by kernel_rfl
def cD.T24 : Bool × List (List Nat × List Nat) := (true, [([], []), ([0], [0]), ([], []), ([2], [2]), ([], []), ([4, 3], [4]), ([], []), ([6, 5], [6]), ([3, 5, 7], [3, 5, 7]), ([8], [8]), ([1, 9, 7], [1, 9]), ([0, 1, 2, 3, 4, 5, 6, 7, 8, 9, 10], []), ([11, 10, 10, 0, 1, 2, 3, 4, 5, 6, 7, 8, 9, 10], [10, 11])])
def cD.B24 : List Nat := [0, 1, 0, 4, 0, 28, 0, 124, 252, 508, 1023, 2047, 4095]
theorem cD.tab24 : rtab .any (opsOf Try.f19 24) = cD.T24 := by kernel_rfl
theorem cD.bits24 : waitsOk cD.T24.2 cD.B24 = true := by kernel_rfl
set_option maxHeartbeats 8000000 in
set_option maxRecDepth 100000 in
theorem cD.calls (k : Nat) (A0 : Option Addr) (c0 : Nat) (l0 : List Int) (r1 : List (S40)) (r2 : List Int) (r3 : List ByteArray) (r4 : Int) (r5 : Int) (w : World) (hr0 : Kd.C (Kd.int .u8) w A0 l0.length l0) (hc0 : l0.length ≤ c0) (h : cD.f k l0 = some (r1, r2, r3, r4, r5)) :
  Calls Try.prog 19 #[.slice A0 l0.length c0] w fun e w' => ∃ v0_ v1_ v2_ : Value, e = .returned (.tuple #[.agg #[v0_, v1_, v2_, .int .i64 r4], .int .i64 r5]) ∧ Kd.S k40 40 w' w.heap.size (fun _ => True) v0_ r1 ∧ Kd.R (Kd.int .i64) 3 w' w.heap.size (fun _ => True) v1_ r2 ∧ Kd.R Kd.string 9 w' w.heap.size (fun _ => True) v2_ r3 ∧ Below w.heap.size w w' := by
 have hu26 := Try.underlying26
 have hu40 := Try.underlying40
 have hu42 := Try.underlying42
 have HR0 := Aside0.mk hr0
 have HC0 := Aside0.mk hc0
 clear hr0 hc0
 have HB := Aside0.mk (Below.refl w.heap.size w)
 have H : ((cD1.f 1 l0 (startI l0) (startS l0)).bind fun bt394 => ((cD1.f 1 l0 bt394.2.1 bt394.2.2).bind fun bt398 => (cD.l0 k bt398.1 0 l0 bt398.2.1 bt398.2.2 ([] : List Int) bt394.1))) = some (r1, r2, r3, r4, r5) := h
 clear h
 replace H := Option.bind_eq_some_iff.mp H
 obtain ⟨⟨t394, t395, t396⟩, A20, H⟩ := H
 replace H : ((cD1.f 1 l0 t395 t396).bind fun bt398 => (cD.l0 k bt398.1 0 l0 bt398.2.1 bt398.2.2 ([] : List Int) t394)) = some (r1, r2, r3, r4, r5) := H
 have A2 := Aside0.mk A20
 clear A20
 replace H := Option.bind_eq_some_iff.mp H
 obtain ⟨⟨t398, t399, t400⟩, A30, H⟩ := H
 replace H : (cD.l0 k t398 0 l0 t399 t400 ([] : List Int) t394) = some (r1, r2, r3, r4, r5) := H
 have A3 := Aside0.mk A30
 clear A30
 have H' := Aside0.mk H
 clear H
 go_enter Try.func19, Try.ntmps19
 go_upto_region 1 with (first | ((with_reducible refine gate_dst (N := 2) rfl ?_); (try (refine gate_guard (by rfl) ?_; dsimp only)); refine box_event ?hg (N := 2) ?hd (cs := #[.slice none 0 0, .slice none 0 0, .slice none 0 0, .int .i64 0]) (t := 26) ?hr ?_; (case hd => rfl); (case hg => rfl); (case hr => first | (go_simp; done) | (go_simp; rfl)); intro gb392 hg w4 hbox hb; have n0_ := Aside0.mk (bT (by repeat (first | (with_reducible first | exact HB.out | apply bA | apply bN | apply bD) | exact HB.out)) hb); have n1_ := Aside0.mk (hbox); have n2_ := Aside0.mk ((by rw [hg]; exact (bZ (by repeat (first | (with_reducible first | exact HB.out | apply bA | apply bN | apply bD) | exact HB.out))) : w.heap.size ≤ gb392)); have n3_ := Aside0.mk ((by rw [hg]; exact (bZ (by repeat (first | (with_reducible first | exact HB.out | apply bA | apply bN | apply bD) | exact HB.out))) : w.heap.size ≤ gb392)); clear HB; have HB := n0_; have BK392 := n1_; have GW392 := n2_; have GE392 := n3_; clear n0_ n1_ n2_ n3_; clear hb hbox hg))
 go_cut [4] (fun v4 wc => ∃ b : Bool, v4 = .pointer (some ⟨w4.heap.size, 0, none⟩) ∧ Aside0 (b = startS l0) ∧ Aside0 (wc.heap[w4.heap.size]? = some (.cells #[.bool b] 4 (0, 0))) ∧ Aside0 (wc.heap.size = w4.heap.size + 1) ∧ Aside0 (Below w4.heap.size w4 wc))
 case first =>
  by_cases h3 : (l0.length : Int) < 3
  ·have h3n : l0.length < 3 := by omega
   go_wp2
   go_meet
   case rel => exact ⟨true, rfl, ⟨by unfold startS; rw [if_pos h3]⟩, ⟨blk_new _ _⟩, ⟨by simp⟩, ⟨bA (Below.refl _ _) _⟩⟩
  have h3n : ¬ l0.length < 3 := by omega
  have h3m : 3 ≤ l0.length := by omega
  have h3c : 3 ≤ c0 := by have := HC0.out; omega
  have hcv3 := Kd.C_string (P := Try.prog) (A := A0) (c := c0) Try.underlying28 Try.underlying5 Try.underlying9 (Kd.C_below (C_take (m := 3) HR0.out (by omega) (by omega)) HB.out)
  rw [show (l0.take 3).length = 3 by rw [List.length_take]; omega] at hcv3
  go_wp2
  go_meet
  case rel => exact ⟨_, rfl, ⟨by unfold startS; rw [if_neg (by omega)]; rfl⟩, ⟨blk_new _ _⟩, ⟨by simp⟩, ⟨bA (Below.refl _ _) _⟩⟩
 obtain ⟨b0, rfl, HS0, HBS, HSZ, HB5⟩ := hcut
 go_upto_region 2 with (fail)
 go_cut [5] (fun v5 wd => v5 = .pointer (some ⟨w4.heap.size + 1, 0, none⟩) ∧ Aside0 (IsN w wd w4.heap.size l0 (startI l0) (startS l0)) ∧ Aside0 (Below w4.heap.size w4 wd))
 case first =>
  by_cases h3 : (l0.length : Int) < 3
  ·have h3n : l0.length < 3 := by omega
   have HSA := Aside0.mk (show b0 = true by rw [HS0.out]; unfold startS; rw [if_pos h3])
   have HBT := Aside0.mk (show wc.heap[w4.heap.size]? = some (.cells #[.bool true] 4 (0, 0)) by have h := HBS.out; rw [HSA.out] at h; exact h)
   obtain ⟨A1, hcut1, _⟩ := cutN A0 l0.length c0 l0.length (Nat.le_refl _) HC0.out
   rw [Nat.sub_self] at hcut1
   go_wp2
   go_meet
   case rel => exact ⟨by rw [HSZ.out], ⟨isN_a (by omega) (kA HBT.out _) (by have h := blk_new wc (.cells #[.slice A1 0 (c0 - l0.length)] 28); rw [HSZ.out] at h; exact h) (bZ HB.out)⟩, ⟨bA HB5.out _⟩⟩
  have h3n : ¬ l0.length < 3 := by omega
  have h3m : 3 ≤ l0.length := by omega
  have hc00 := HC0.out
  have h3c : 3 ≤ c0 := by omega
  have HSA := Aside0.mk (show b0 = ((strOfNums (l0.take 3)).toList != ([83, 77, 49] : List UInt8)) by rw [HS0.out]; unfold startS; rw [if_neg (by omega)])
  obtain ⟨A1, hcut1, hA1⟩ := cutN A0 l0.length c0 3 h3m HC0.out
  have hcut2 : ∀ W : World, (Instr.slice 28 (.slice A0 l0.length c0) (some (.int .i64 3)) none none).run Try.prog W = .ok (.slice A1 (l0.length - 3) (c0 - 3)) W := hcut1
  clear hcut1
  have HA1 := Aside0.mk (hA1 w l0 HR0.out)
  clear hA1
  go_wp2
  go_meet
  case rel => exact ⟨by rw [HSZ.out], ⟨isN_b (by omega) (kA HBS.out _) HSA.out (by have h := blk_new wc (.cells #[.slice A1 (l0.length - 3) (c0 - 3)] 28); rw [HSZ.out] at h; exact h) (by omega) (.inr HA1.out) (bZ HB.out)⟩, ⟨bA HB5.out _⟩⟩
 obtain ⟨rfl, HI393, HB6⟩ := hcut
 have hlt4 := blk_lt BK392.out
 have n0_ := Aside0.mk (kB BK392.out HB6.out)
 have n1_ := Aside0.mk (bT HB.out HB6.out)
 have hmf : ∀ (fn : Fn) (first cap : Array Value) (w : World), (Instr.makeFunc fn first cap).run Try.prog w = .ok (.func fn first cap) w := fun _ _ _ _ => rfl
 clear BK392 HB HB6 HB5 HSZ HBS
 have BK392 := n0_
 have HB := n1_
 clear n0_ n1_
 generalize w4.heap.size = gb393 at *
 have NB392_393 : Aside0 (gb392 ≠ gb393) := ⟨by omega⟩
 have NB393_392 : Aside0 (Ne2 gb393 gb392) := ⟨⟨by omega, by omega⟩⟩
 clear hlt4
 generalize startI l0 = i0_ at HI393 A2
 generalize startS l0 = s0_ at HI393 A2
 go_wp2_with (first | (go_at_call 33; (with_reducible refine (cD1.calls 1 gb393 l0 i0_ s0_ t394 t395 t396 w _ ?side1 ?side2 A2.out).mono ?_); (case side1 => repeat (first | (with_reducible first | exact HI393.out | apply IsN.alloc | apply IsN.drewN | apply IsN.drew | apply IsN.set_1 | apply IsN.set_2 | refine IsN.far ?_ NB393_392.out _) | exact HI393.out)); (case side2 => repeat (first | (with_reducible first | exact HB.out | apply bA | apply bN | apply bD | refine bS ?_ (IsN.ge HI393.out) | refine bS ?_ GE392.out) | exact HB.out)); rintro e w6 ⟨rfl, hi, hb, hk⟩; have n0_ := Aside0.mk (KB_blk hk (g' := gb392) (o := .cells #[.slice none 0 0, .slice none 0 0, .slice none 0 0, .int .i64 0] 26 (0, 0)) (by (with_reducible repeat (first | refine kN ?_ _ | refine kD ?_ | refine kA ?_ _)); exact BK392.out) (by exact ⟨by decide, by decide⟩)); have n1_ := Aside0.mk (hb); have n2_ := Aside0.mk (hi); clear BK392; clear HB; clear HI393; have BK392 := n0_; have HB := n1_; have HI393 := n2_; clear n0_ n1_ n2_; (try clear hb); (try clear hb2); (try clear hk); (try clear hi)) | ((with_reducible refine gate_dst (N := 7) rfl ?_); (try (refine gate_guard (by rfl) ?_; dsimp only)); refine box_event ?hg (N := 7) ?hd (cs := #[.slice none 0 0, .slice none 0 0, .slice none 0 0, .int .i64 0]) (t := 26) ?hr ?_; (case hd => rfl); (case hg => rfl); (case hr => first | (go_simp; done) | (go_simp; rfl)); intro gb397 hg w7 hbox hb; have n0_ := Aside0.mk (kB (g := gb392) (o := .cells #[.slice none 0 0, .slice none 0 0, .slice none 0 0, .int .i64 0] 26 (0, 0)) (by (with_reducible repeat (first | refine kN ?_ _ | refine kD ?_ | refine kA ?_ _)); exact BK392.out) hb); have n1_ := Aside0.mk (IsN.below (by repeat (first | (with_reducible first | exact HI393.out | apply IsN.alloc | apply IsN.drewN | apply IsN.drew | apply IsN.set_1 | apply IsN.set_2 | refine IsN.far ?_ NB393_392.out _) | exact HI393.out)) hb); have n2_ := Aside0.mk (bT (by repeat (first | (with_reducible first | exact HB.out | apply bA | apply bN | apply bD | refine bS ?_ (IsN.ge HI393.out) | refine bS ?_ GE392.out) | exact HB.out)) hb); have n3_ := Aside0.mk (hbox); have n4_ := Aside0.mk ((by rw [hg]; exact (bZ (by repeat (first | (with_reducible first | exact HB.out | apply bA | apply bN | apply bD | refine bS ?_ (IsN.ge HI393.out) | refine bS ?_ GE392.out) | exact HB.out))) : w.heap.size ≤ gb397)); have n5_ := Aside0.mk ((by rw [hg]; exact (bZ (by repeat (first | (with_reducible first | exact HB.out | apply bA | apply bN | apply bD | refine bS ?_ (IsN.ge HI393.out) | refine bS ?_ GE392.out) | exact HB.out))) : w.heap.size ≤ gb397)); have n6_ := Aside0.mk ((by rw [hg]; exact Nat.ne_of_lt (blk_lt (g := gb392) (o := .cells #[.slice none 0 0, .slice none 0 0, .slice none 0 0, .int .i64 0] 26 (0, 0)) (by (with_reducible repeat (first | refine kN ?_ _ | refine kD ?_ | refine kA ?_ _)); exact BK392.out)) : gb392 ≠ gb397)); have n7_ := Aside0.mk ((by rw [hg]; exact Nat.ne_of_gt (blk_lt (g := gb392) (o := .cells #[.slice none 0 0, .slice none 0 0, .slice none 0 0, .int .i64 0] 26 (0, 0)) (by (with_reducible repeat (first | refine kN ?_ _ | refine kD ?_ | refine kA ?_ _)); exact BK392.out)) : gb397 ≠ gb392)); have n8_ := Aside0.mk ((by rw [hg]; exact ⟨Nat.ne_of_lt (IsN.lt (show IsN w _ gb393 l0 t395 t396 from by repeat (first | (with_reducible first | exact HI393.out | apply IsN.alloc | apply IsN.drewN | apply IsN.drew | apply IsN.set_1 | apply IsN.set_2 | refine IsN.far ?_ NB393_392.out _) | exact HI393.out))), Nat.ne_of_lt (IsN.lt2 (show IsN w _ gb393 l0 t395 t396 from by repeat (first | (with_reducible first | exact HI393.out | apply IsN.alloc | apply IsN.drewN | apply IsN.drew | apply IsN.set_1 | apply IsN.set_2 | refine IsN.far ?_ NB393_392.out _) | exact HI393.out)))⟩ : Ne2 gb393 gb397)); have n9_ := Aside0.mk ((by rw [hg]; exact Nat.ne_of_gt (IsN.lt (show IsN w _ gb393 l0 t395 t396 from by repeat (first | (with_reducible first | exact HI393.out | apply IsN.alloc | apply IsN.drewN | apply IsN.drew | apply IsN.set_1 | apply IsN.set_2 | refine IsN.far ?_ NB393_392.out _) | exact HI393.out))) : gb397 ≠ gb393)); clear BK392; clear HI393; clear HB; have BK392 := n0_; have HI393 := n1_; have HB := n2_; have BK397 := n3_; have GW397 := n4_; have GE397 := n5_; have NB392_397 := n6_; have NB397_392 := n7_; have NB393_397 := n8_; have NB397_393 := n9_; clear n0_ n1_ n2_ n3_ n4_ n5_ n6_ n7_ n8_ n9_; clear hb hbox hg; have hnb8 := NB397_392.out; have hnc8 := NB392_397.out; have hnb9 := NB397_393.out; have hnc9 := NB393_397.out; have hcz10_0 : w7.cell? ⟨gb397, 0, none⟩ = some (.slice none 0 0) := (kC BK397.out 0).trans rfl; have hcz10_1 : w7.cell? ⟨gb397, 1, none⟩ = some (.slice none 0 0) := (kC BK397.out 1).trans rfl; have hcz10_2 : w7.cell? ⟨gb397, 2, none⟩ = some (.slice none 0 0) := (kC BK397.out 2).trans rfl; have hcz10_3 : w7.cell? ⟨gb397, 3, none⟩ = some (.int .i64 0) := (kC BK397.out 3).trans rfl; have hfz10_0 := kF BK397.out 0; have hfz10_1 := kF BK397.out 1; have hfz10_2 := kF BK397.out 2; have hfz10_3 := kF BK397.out 3) | (go_at_call 33; (with_reducible refine (cD1.calls 1 gb393 l0 t395 t396 t398 t399 t400 w _ ?side1 ?side2 A3.out).mono ?_); (case side1 => repeat (first | (with_reducible first | exact HI393.out | apply IsN.alloc | apply IsN.drewN | apply IsN.drew | apply IsN.set_1 | apply IsN.set_2 | refine IsN.far ?_ NB393_392.out _ | refine IsN.far ?_ NB393_397.out _) | exact HI393.out)); (case side2 => repeat (first | (with_reducible first | exact HB.out | apply bA | apply bN | apply bD | refine bS ?_ (IsN.ge HI393.out) | refine bS ?_ GE392.out | refine bS ?_ GE397.out) | exact HB.out)); rintro e w11 ⟨rfl, hi, hb, hk⟩; have n0_ := Aside0.mk (KB_blk hk (g' := gb392) (o := .cells #[.slice none 0 0, .slice none 0 0, .slice none 0 0, .int .i64 0] 26 (0, 0)) (by (with_reducible repeat (first | refine kN ?_ _ | refine kD ?_ | refine kA ?_ _)); refine blk_far ?_ NB392_397.out _; (with_reducible repeat (first | refine kN ?_ _ | refine kD ?_ | refine kA ?_ _)); refine blk_far ?_ NB392_397.out _; (with_reducible repeat (first | refine kN ?_ _ | refine kD ?_ | refine kA ?_ _)); refine blk_far ?_ NB392_397.out _; (with_reducible repeat (first | refine kN ?_ _ | refine kD ?_ | refine kA ?_ _)); refine blk_far ?_ NB392_397.out _; (with_reducible repeat (first | refine kN ?_ _ | refine kD ?_ | refine kA ?_ _)); exact BK392.out) (by exact ⟨by decide, by decide⟩)); have n1_ := Aside0.mk (KB_blk hk (g' := gb397) (o := .cells #[.slice none 0 0, .slice none 0 0, .slice none 0 0, .int .i64 t394] 26 (0, 0)) (by (with_reducible repeat (first | refine kN ?_ _ | refine kD ?_ | refine kA ?_ _)); refine kP (cs := #[.slice none 0 0, .slice none 0 0, .slice none 0 0, .int .i64 0]) ?_ 3 _ rfl; (with_reducible repeat (first | refine kN ?_ _ | refine kD ?_ | refine kA ?_ _)); refine kP (cs := #[.slice none 0 0, .slice none 0 0, .slice none 0 0, .int .i64 0]) ?_ 2 _ rfl; (with_reducible repeat (first | refine kN ?_ _ | refine kD ?_ | refine kA ?_ _)); refine kP (cs := #[.slice none 0 0, .slice none 0 0, .slice none 0 0, .int .i64 0]) ?_ 1 _ rfl; (with_reducible repeat (first | refine kN ?_ _ | refine kD ?_ | refine kA ?_ _)); refine kP (cs := #[.slice none 0 0, .slice none 0 0, .slice none 0 0, .int .i64 0]) ?_ 0 _ rfl; (with_reducible repeat (first | refine kN ?_ _ | refine kD ?_ | refine kA ?_ _)); exact BK397.out) (by exact ⟨by decide, by decide⟩)); have n2_ := Aside0.mk (hb); have n3_ := Aside0.mk (hi); clear BK392; clear BK397; clear HB; clear HI393; have BK392 := n0_; have BK397 := n1_; have HB := n2_; have HI393 := n3_; clear n0_ n1_ n2_ n3_; (try clear hb); (try clear hb2); (try clear hk); (try clear hi)))
 go_loopg [33] k (fun kq v33 w' => ∃ (x33_1 : Int) (x398001_1 : List Int) (u398001 : Value) (ti_ : Int) (ts_ : Bool), v33 = .int .i64 x33_1 ∧ Aside0 (cD.l0 kq t398 x33_1 l0 ti_ ts_ x398001_1 t394 = some (r1, r2, r3, r4, r5)) ∧ Aside0 (kq ≤ k) ∧ Aside0 (Kd.R (Kd.int .i64) 3 w' w.heap.size (fun _ => True) u398001 x398001_1) ∧ Aside0 (w'.heap[gb392]? = some (.cells #[(.slice none 0 0), (.slice none 0 0), (.slice none 0 0), .int .i64 0] 26 (0, 0))) ∧ Aside0 (w'.heap[gb397]? = some (.cells #[(.slice none 0 0), u398001, (.slice none 0 0), .int .i64 t394] 26 (0, 0))) ∧ Aside0 (IsN w w' gb393 l0 ti_ ts_) ∧ Aside0 (Below w.heap.size w w'))
 case atStart => exact ⟨(0), (([] : List Int)), (.slice none 0 0), _, _, (by first | rfl | (simp; done) | (simp [*]; done)), H', ⟨Nat.le_refl _⟩, ⟨by first | exact Kd.R_nil _ _ _ _ _ | exact Kd.N_nil _ _ _ _ _ | exact Kd.V_nil _ _ _ _ _ | exact Kd.Q_nil _ _ _ _ _ | exact Kd.S_nil _ _ _ _ _⟩, ⟨by (with_reducible repeat (first | refine kN ?_ _ | refine kD ?_ | refine kA ?_ _)); exact BK392.out⟩, ⟨by (with_reducible repeat (first | refine kN ?_ _ | refine kD ?_ | refine kA ?_ _)); exact BK397.out⟩, ⟨by repeat (first | (with_reducible first | exact HI393.out | apply IsN.alloc | apply IsN.drewN | apply IsN.drew | apply IsN.set_1 | apply IsN.set_2 | refine IsN.far ?_ NB393_392.out _ | refine IsN.far ?_ NB393_397.out _) | exact HI393.out)⟩, ⟨by repeat (first | (with_reducible first | exact HB.out | apply bA | apply bN | apply bD | refine bS ?_ (IsN.ge HI393.out) | refine bS ?_ GE392.out | refine bS ?_ GE397.out) | exact HB.out)⟩⟩
 case round =>
  clear H'
  try clear hcz10_0
  try clear hcz10_1
  try clear hcz10_2
  try clear hcz10_3
  try clear hfz10_0
  try clear hfz10_1
  try clear hfz10_2
  try clear hfz10_3
  obtain ⟨x33_1, x398001_1, u398001, t399, t400, rfl, HA, HK1, HO_398001, BK392, BK397, HI393, HB⟩ := hrel
  cases gk with
  | zero => exact absurd HA.out (by simp [cD.l0])
  | succ k1 =>
   have H := HA.out
   clear HA
   simp only [cD.l0] at H
   by_cases c12 : x33_1 < t398
   ·rw [if_pos c12] at H
    have c12b0 : decide (x33_1 < t398) = true := decide_eq_true c12
    clear c12
    replace H := Option.bind_eq_some_iff.mp H
    obtain ⟨⟨t401, t402, t403⟩, A130, H⟩ := H
    replace H : (if x398001_1.length < 17592186044416 then (cD.l0 k1 t398 (wrap64 (x33_1 + 1)) l0 t402 t403 (x398001_1 ++ [t401]) t394) else (none)) = some (r1, r2, r3, r4, r5) := H
    have A13 := Aside0.mk A130
    clear A130
    by_cases c14 : x398001_1.length < 17592186044416
    ·rw [if_pos c14] at H
     have LMc14 := Aside0.mk c14
     clear c14
     obtain ⟨y404, hy404⟩ : ∃ y_ : List Int, y_ = (x398001_1 ++ [t401]) := ⟨_, rfl⟩
     replace H : (cD.l0 k1 t398 (wrap64 (x33_1 + 1)) l0 t402 t403 y404 t394) = some (r1, r2, r3, r4, r5) := by first | (rw [hy404]; with_reducible exact H) | (have H2_ := (Option.bind_some _ _).symm.trans H; rw [hy404]; with_reducible exact H2_) | (have H2_ := (Option.bind_some _ _).symm.trans H; with_reducible exact H2_) | with_reducible exact H | (rw [hy404]; exact H) | exact H
     have Ny404 := Aside0.mk hy404
     clear hy404
     have H' := Aside0.mk H
     clear H
     try go_wp2
     have n0_ := Aside0.mk (Kd.R_drew HO_398001.out)
     have n1_ := Aside0.mk (kD BK392.out)
     have n2_ := Aside0.mk (kD BK397.out)
     have n3_ := Aside0.mk (IsN.drew HI393.out)
     have n4_ := Aside0.mk (bD HB.out)
     clear HO_398001
     clear BK392
     clear BK397
     clear HI393
     clear HB
     have HO_398001 := n0_
     have BK392 := n1_
     have BK397 := n2_
     have HI393 := n3_
     have HB := n4_
     clear n0_ n1_ n2_ n3_ n4_
     refine start_ (n := 8) (S := fun w' => w'.cell? ⟨gb397, 0, none⟩ = some (.slice none 0 0) ∧ w'.cell? ⟨gb397, 1, none⟩ = some (u398001) ∧ w'.cell? ⟨gb397, 2, none⟩ = some (.slice none 0 0) ∧ w'.cell? ⟨gb397, 3, none⟩ = some (.int .i64 t394)) (ds := [7]) #[false, false, false, false, false, false, false, false] (by kernel_rfl) rfl rfl ⟨(kC BK397.out 0).trans rfl, (kC BK397.out 1).trans rfl, (kC BK397.out 2).trans rfl, (kC BK397.out 3).trans rfl⟩ (fun hHeld => ?_); refine with_tabW cD.tab7 cD.bits7 (fun HT_ HW_ => ?_)
     generalize wr.drew = w15 at HO_398001 BK392 BK397 HI393 HB hHeld ⊢
     refine pure_ (i := 0) (N := some 35) (v := ?_) (a' := ?_) #[true, false, false, false, false, false, false, false] rfl rfl (any_of HT_.out (by kernel_rfl)) (fun _ _ _ h => h) (Or.inl ⟨by rfl, ?_⟩) ?_ ?_
     rotate_left
     ·intro w'
      go_simp
      with_reducible rfl
     rotate_left
     ·simp only [Act.put, List.setIfInBounds_toArray, List.set_cons_zero, List.set_cons_succ, i64_w, i32_w]
      rfl
     refine pure_ (i := 2) (N := some 37) (v := ?_) (a' := ?_) #[true, false, true, false, false, false, false, false] rfl rfl (any_of HT_.out (by kernel_rfl)) (fun _ _ _ h => h) (Or.inl ⟨by rfl, ?_⟩) ?_ ?_
     rotate_left
     ·intro w'
      go_simp
      with_reducible rfl
     rotate_left
     ·simp only [Act.put, List.setIfInBounds_toArray, List.set_cons_zero, List.set_cons_succ, i64_w, i32_w]
      rfl
     refine take_ (i := 1) (N := some 36) (v := ?_) (a' := ?_) #[true, true, true, false, false, false, false, false] rfl rfl (take_ofW HT_.out HW_.out (by kernel_rfl)) (fun _ _ _ h => h) (Or.inl ⟨by rfl, ?_⟩) hHeld ?_ ?_
     rotate_left
     ·rintro w' ⟨s0, s1, s2, s3⟩
      go_simp
      with_reducible rfl
     rotate_left
     ·simp only [Act.put, List.setIfInBounds_toArray, List.set_cons_zero, List.set_cons_succ, i64_w, i32_w]
      rfl
     refine one_ (i := 3) (N := some 38) #[true, true, true, true, false, false, false, false] rfl rfl (one_of HT_.out (by kernel_rfl)) (by decide) (fun K hK => ?_)
     refine goesC_ (caps := #[.pointer (some ⟨gb393 + 1, 0, none⟩), .pointer (some ⟨gb393, 0, none⟩)]) Try.func33 (by kernel_rfl) rfl #[.int .i64 8, .pointer (some ⟨gb393 + 1, 0, none⟩), .pointer (some ⟨gb393, 0, none⟩)] (by rfl) rfl rfl (by first | rfl | (simp [Act.eval]; done)) (by first | rfl | (simp [Act.eval]; done)) ?_
     with_reducible refine (cD1.calls 8 gb393 l0 t399 t400 t401 t402 t403 w _ ?side1 ?side2 A13.out).mono ?_
     (case side1 => repeat (first | (with_reducible first | exact HI393.out | apply IsN.alloc | apply IsN.drewN | apply IsN.drew | apply IsN.set_1 | apply IsN.set_2 | refine IsN.far ?_ NB393_392.out _ | refine IsN.far ?_ NB393_397.out _) | exact HI393.out))
     (case side2 => repeat (first | (with_reducible first | exact HB.out | apply bA | apply bN | apply bD | refine bS ?_ (IsN.ge HI393.out) | refine bS ?_ GE392.out | refine bS ?_ GE397.out) | exact HB.out))
     rintro e w16 ⟨rfl, hi, hb, hk⟩
     refine ⟨_, rfl, ?_⟩
     have n0_ := Aside0.mk (Kd.R_mono (R_keepN (IsN.apart (show IsN w _ gb393 l0 t399 t400 from by repeat (first | (with_reducible first | exact HI393.out | apply IsN.alloc | apply IsN.drewN | apply IsN.drew | apply IsN.set_1 | apply IsN.set_2 | refine IsN.far ?_ NB393_392.out _ | refine IsN.far ?_ NB393_397.out _) | exact HI393.out)) (by (with_reducible repeat (first | apply Kd.R_alloc | apply Kd.R_drewN | apply Kd.R_drew)); exact HO_398001.out) (by decide)) hk (by decide)) (fun _ h => h.1))
     have n1_ := Aside0.mk (KB_blk hk (g' := gb392) (o := .cells #[.slice none 0 0, .slice none 0 0, .slice none 0 0, .int .i64 0] 26 (0, 0)) (by (with_reducible repeat (first | refine kN ?_ _ | refine kD ?_ | refine kA ?_ _)); exact BK392.out) (by exact ⟨by decide, by decide⟩))
     have n2_ := Aside0.mk (KB_blk hk (g' := gb397) (o := .cells #[.slice none 0 0, u398001, .slice none 0 0, .int .i64 t394] 26 (0, 0)) (by (with_reducible repeat (first | refine kN ?_ _ | refine kD ?_ | refine kA ?_ _)); exact BK397.out) (by exact ⟨by decide, by decide⟩))
     have n3_ := Aside0.mk (hb)
     have n4_ := Aside0.mk (hi)
     clear HO_398001
     clear BK392
     clear BK397
     clear HB
     clear HI393
     have HO_398001 := n0_
     have BK392 := n1_
     have BK397 := n2_
     have HB := n3_
     have HI393 := n4_
     clear n0_ n1_ n2_ n3_ n4_
     (try clear hb)
     (try clear hb2)
     (try clear hk)
     (try clear hi)
     refine hK.out _ _ ⟨(kC BK397.out 0).trans rfl, (kC BK397.out 1).trans rfl, (kC BK397.out 2).trans rfl, (kC BK397.out 3).trans rfl⟩ (fun hHeld => ?_)
     clear hK K
     refine norm_ (a' := ?_) ?_ ?_
     rotate_left
     ·show Act.put _ (some 38) _ = _
      simp only [Act.put, List.setIfInBounds_toArray, List.set_cons_zero, List.set_cons_succ, i64_w, i32_w]
      rfl
     refine one_ (i := 4) (N := some 39) #[true, true, true, true, true, false, false, false] rfl rfl (one_of HT_.out (by kernel_rfl)) (by decide) (fun K hK => ?_)
     refine value_ (w1 := ?_) (v := ?_) (by rfl) rfl ?_ ?_
     rotate_left 2
     ·go_simp
      constructor
      ·rfl
      rfl
     refine hK.out _ _ ⟨(kC (kA BK397.out _) 0).trans rfl, (kC (kA BK397.out _) 1).trans rfl, (kC (kA BK397.out _) 2).trans rfl, (kC (kA BK397.out _) 3).trans rfl⟩ (fun hHeld => ?_)
     clear hK K
     refine norm_ (a' := ?_) ?_ ?_
     rotate_left
     ·show Act.put _ (some 39) _ = _
      simp only [Act.put, List.setIfInBounds_toArray, List.set_cons_zero, List.set_cons_succ, i64_w, i32_w]
      rfl
     refine one_ (i := 5) (N := some 40) #[true, true, true, true, true, true, false, false] rfl rfl (one_of HT_.out (by kernel_rfl)) (by decide) (fun K hK => ?_)
     refine Kd.R_append_step (Kd.int .i64) (w0 := w) w.heap.size (by rfl) (.tmp 36) (.tmp 39) 23 3 (.int .i64 0) 8 rfl Try.underlying23 info3 rfl (by decide) (by omega) u398001 x398001_1 t401 [.int .i64 t401] (fun _ => True) (fun _ => False) rfl rfl ?aP (fun _ hk => hk.elim) ?aF ?aO ?aB ?aS ?aL ?_
     (case aP => exact rfl)
     (case aB => exact (by repeat (first | (with_reducible first | exact HB.out | apply bA | apply bN | apply bD | refine bS ?_ (IsN.ge HI393.out) | refine bS ?_ GE392.out | refine bS ?_ GE397.out) | exact HB.out)))
     (case aF => exact (fun _ _ => trivial))
     (case aO => exact (by (with_reducible repeat (first | apply Kd.R_alloc | apply Kd.R_drewN | apply Kd.R_drew)); exact HO_398001.out))
     (case aS => exact (bZ (by repeat (first | (with_reducible first | exact HB.out | apply bA | apply bN | apply bD | refine bS ?_ (IsN.ge HI393.out) | refine bS ?_ GE392.out | refine bS ?_ GE397.out) | exact HB.out))))
     (case aL => have := LMc14.out; omega)
     intro v405 w17 ho hb hg hat
     rw [← Ny404.out] at ho
     have n0_ := Aside0.mk (blk_grown (g := gb392) (o := .cells #[.slice none 0 0, .slice none 0 0, .slice none 0 0, .int .i64 0] 26 (0, 0)) (by (with_reducible repeat (first | refine kN ?_ _ | refine kD ?_ | refine kA ?_ _)); exact BK392.out) hg (Kd.R_ne HO_398001.out BK392.out (by decide)))
     have n1_ := Aside0.mk (blk_grown (g := gb397) (o := .cells #[.slice none 0 0, u398001, .slice none 0 0, .int .i64 t394] 26 (0, 0)) (by (with_reducible repeat (first | refine kN ?_ _ | refine kD ?_ | refine kA ?_ _)); exact BK397.out) hg (Kd.R_ne HO_398001.out BK397.out (by decide)))
     have n2_ := Aside0.mk (IsN.grown (by repeat (first | (with_reducible first | exact HI393.out | apply IsN.alloc | apply IsN.drewN | apply IsN.drew | apply IsN.set_1 | apply IsN.set_2 | refine IsN.far ?_ NB393_392.out _ | refine IsN.far ?_ NB393_397.out _) | exact HI393.out)) hg (IsN.own_ne HI393.out HO_398001.out (by decide)))
     have n3_ := Aside0.mk (hb)
     have n4_ := Aside0.mk (ho)
     clear BK392
     clear BK397
     clear HI393
     clear HB
     clear HO_398001
     have BK392 := n0_
     have BK397 := n1_
     have HI393 := n2_
     have HB := n3_
     have HO406 := n4_
     clear n0_ n1_ n2_ n3_ n4_
     clear ho hb hg hat
     obtain ⟨Ao18, co18, eo18⟩ := Kd.R_slice HO406.out
     (first | subst eo18 | (injection eo18 with f1_ f2_ f3_; have f4_ := f1_.symm; have f5_ := f3_.symm; clear f1_ f2_ f3_; subst f4_; subst f5_))
     refine hK.out _ _ ⟨(kC BK397.out 0).trans rfl, (kC BK397.out 1).trans rfl, (kC BK397.out 2).trans rfl, (kC BK397.out 3).trans rfl⟩ (fun hHeld => ?_)
     clear hK K
     refine norm_ (a' := ?_) ?_ ?_
     rotate_left
     ·show Act.put _ (some 40) _ = _
      simp only [Act.put, List.setIfInBounds_toArray, List.set_cons_zero, List.set_cons_succ, i64_w, i32_w]
      rfl
     refine pure_ (i := 6) (N := some 41) (v := ?_) (a' := ?_) #[true, true, true, true, true, true, true, false] rfl rfl (any_of HT_.out (by kernel_rfl)) (fun _ _ _ h => h) (Or.inl ⟨by rfl, ?_⟩) ?_ ?_
     rotate_left
     ·intro w'
      go_simp
      with_reducible rfl
     rotate_left
     ·simp only [Act.put, List.setIfInBounds_toArray, List.set_cons_zero, List.set_cons_succ, i64_w, i32_w]
      rfl
     refine last_ (i := 7) (N := none) #[true, true, true, true, true, true, true, true] rfl rfl (one_of HT_.out (by kernel_rfl)) (by decide) (fun K hK => ?_)
     have hs19 : w17.cell? ⟨gb397, 1, none⟩ = some (u398001) := (kC BK397.out 1).trans rfl
     have hfs19 := kF BK397.out 1
     have hns19_0 := NB392_397.out
     have hms19_0 := NB397_392.out
     refine skip_ (w1 := ?_) (by rfl) rfl ?_ ?_
     rotate_left
     ·go_simp
      rfl
     refine hK.out _ _ ?_
     clear hK K
     refine done_ (done_of HT_.out (by kernel_rfl)) ?_
     try go_wp2
     go_roundg k1
     case measure => have := HK1.out; omega
     case rel => exact ⟨(wrap64 (x33_1 + 1)), (y404), (.slice Ao18 y404.length co18), _, _, (by first | rfl | (simp; done) | (simp [*]; done)), H', ⟨by have := HK1.out; omega⟩, ⟨by (with_reducible repeat (first | apply Kd.R_alloc | apply Kd.R_drewN | apply Kd.R_drew)); exact Kd.R_mono (Kd.R_far (p := ⟨gb397, 1, none⟩) (Kd.R_types HO406.out BK397.out (by decide)) (fun _ hk => hk.2) (.slice Ao18 y404.length co18)) (fun _ hk => trivial)⟩, ⟨by (with_reducible repeat (first | refine kN ?_ _ | refine kD ?_ | refine kA ?_ _)); refine blk_far ?_ NB392_397.out _; (with_reducible repeat (first | refine kN ?_ _ | refine kD ?_ | refine kA ?_ _)); exact BK392.out⟩, ⟨by (with_reducible repeat (first | refine kN ?_ _ | refine kD ?_ | refine kA ?_ _)); refine kP (cs := #[.slice none 0 0, u398001, .slice none 0 0, .int .i64 t394]) ?_ 1 _ rfl; (with_reducible repeat (first | refine kN ?_ _ | refine kD ?_ | refine kA ?_ _)); exact BK397.out⟩, ⟨by repeat (first | (with_reducible first | exact HI393.out | apply IsN.alloc | apply IsN.drewN | apply IsN.drew | apply IsN.set_1 | apply IsN.set_2 | refine IsN.far ?_ NB393_392.out _ | refine IsN.far ?_ NB393_397.out _) | exact HI393.out)⟩, ⟨by repeat (first | (with_reducible first | exact HB.out | apply bA | apply bN | apply bD | refine bS ?_ (IsN.ge HI393.out) | refine bS ?_ GE392.out | refine bS ?_ GE397.out) | exact HB.out)⟩⟩
    rw [if_neg c14] at H
    exact absurd H (by simp)
   rw [if_neg c12] at H
   have c12b0 : decide (x33_1 < t398) = false := decide_eq_false c12
   clear c12
   replace H := Option.bind_eq_some_iff.mp H
   obtain ⟨⟨t407, t408, t409⟩, A200, H⟩ := H
   replace H : (cD.l1 k1 t407 0 l0 t408 t409 x398001_1 ([] : List ByteArray) t394) = some (r1, r2, r3, r4, r5) := H
   have A20 := Aside0.mk A200
   clear A200
   have H' := Aside0.mk H
   clear H
   go_wp2_with (first | (go_at_call 33; (with_reducible refine (cD1.calls 1 gb393 l0 t399 t400 t407 t408 t409 w _ ?side1 ?side2 A20.out).mono ?_); (case side1 => repeat (first | (with_reducible first | exact HI393.out | apply IsN.alloc | apply IsN.drewN | apply IsN.drew | apply IsN.set_1 | apply IsN.set_2 | refine IsN.far ?_ NB393_392.out _ | refine IsN.far ?_ NB393_397.out _) | exact HI393.out)); (case side2 => repeat (first | (with_reducible first | exact HB.out | apply bA | apply bN | apply bD | refine bS ?_ (IsN.ge HI393.out) | refine bS ?_ GE392.out | refine bS ?_ GE397.out) | exact HB.out)); rintro e w21 ⟨rfl, hi, hb, hk⟩; have n0_ := Aside0.mk (Kd.R_mono (R_keepN (IsN.apart (show IsN w _ gb393 l0 t399 t400 from by repeat (first | (with_reducible first | exact HI393.out | apply IsN.alloc | apply IsN.drewN | apply IsN.drew | apply IsN.set_1 | apply IsN.set_2 | refine IsN.far ?_ NB393_392.out _ | refine IsN.far ?_ NB393_397.out _) | exact HI393.out)) (by (with_reducible repeat (first | apply Kd.R_alloc | apply Kd.R_drewN | apply Kd.R_drew)); exact HO_398001.out) (by decide)) hk (by decide)) (fun _ h => h.1)); have n1_ := Aside0.mk (KB_blk hk (g' := gb392) (o := .cells #[.slice none 0 0, .slice none 0 0, .slice none 0 0, .int .i64 0] 26 (0, 0)) (by (with_reducible repeat (first | refine kN ?_ _ | refine kD ?_ | refine kA ?_ _)); exact BK392.out) (by exact ⟨by decide, by decide⟩)); have n2_ := Aside0.mk (KB_blk hk (g' := gb397) (o := .cells #[.slice none 0 0, u398001, .slice none 0 0, .int .i64 t394] 26 (0, 0)) (by (with_reducible repeat (first | refine kN ?_ _ | refine kD ?_ | refine kA ?_ _)); exact BK397.out) (by exact ⟨by decide, by decide⟩)); have n3_ := Aside0.mk (hb); have n4_ := Aside0.mk (hi); clear HO_398001; clear BK392; clear BK397; clear HB; clear HI393; have HO_398001 := n0_; have BK392 := n1_; have BK397 := n2_; have HB := n3_; have HI393 := n4_; clear n0_ n1_ n2_ n3_ n4_; (try clear hb); (try clear hb2); (try clear hk); (try clear hi)))
   go_loopg [45] k1 (fun kq v45 w' => ∃ (x45_2 : Int) (x398002_2 : List ByteArray) (u398002 : Value) (ti_ : Int) (ts_ : Bool), v45 = .int .i64 x45_2 ∧ Aside0 (cD.l1 kq t407 x45_2 l0 ti_ ts_ x398001_1 x398002_2 t394 = some (r1, r2, r3, r4, r5)) ∧ Aside0 (kq ≤ k1) ∧ Aside0 (Kd.R (Kd.int .i64) 3 w' w.heap.size (fun _ => True) u398001 x398001_1) ∧ Aside0 (Kd.R Kd.string 9 w' w.heap.size (fun _ => True) u398002 x398002_2) ∧ Aside0 (w'.heap[gb392]? = some (.cells #[(.slice none 0 0), (.slice none 0 0), (.slice none 0 0), .int .i64 0] 26 (0, 0))) ∧ Aside0 (w'.heap[gb397]? = some (.cells #[(.slice none 0 0), u398001, u398002, .int .i64 t394] 26 (0, 0))) ∧ Aside0 (IsN w w' gb393 l0 ti_ ts_) ∧ Aside0 (Below w.heap.size w w'))
   case atStart => exact ⟨(0), (([] : List ByteArray)), (.slice none 0 0), _, _, (by first | rfl | (simp; done) | (simp [*]; done)), H', ⟨Nat.le_refl _⟩, ⟨by (with_reducible repeat (first | apply Kd.R_alloc | apply Kd.R_drewN | apply Kd.R_drew)); exact HO_398001.out⟩, ⟨by first | exact Kd.R_nil _ _ _ _ _ | exact Kd.N_nil _ _ _ _ _ | exact Kd.V_nil _ _ _ _ _ | exact Kd.Q_nil _ _ _ _ _ | exact Kd.S_nil _ _ _ _ _⟩, ⟨by (with_reducible repeat (first | refine kN ?_ _ | refine kD ?_ | refine kA ?_ _)); exact BK392.out⟩, ⟨by (with_reducible repeat (first | refine kN ?_ _ | refine kD ?_ | refine kA ?_ _)); exact BK397.out⟩, ⟨by repeat (first | (with_reducible first | exact HI393.out | apply IsN.alloc | apply IsN.drewN | apply IsN.drew | apply IsN.set_1 | apply IsN.set_2 | refine IsN.far ?_ NB393_392.out _ | refine IsN.far ?_ NB393_397.out _) | exact HI393.out)⟩, ⟨by repeat (first | (with_reducible first | exact HB.out | apply bA | apply bN | apply bD | refine bS ?_ (IsN.ge HI393.out) | refine bS ?_ GE392.out | refine bS ?_ GE397.out) | exact HB.out)⟩⟩
   case round =>
    clear H'
    try clear c12b0
    obtain ⟨x45_2, x398002_2, u398002, t408, t409, rfl, HA, HK2, HO_398001, HO_398002, BK392, BK397, HI393, HB⟩ := hrel
    cases gk with
    | zero => exact absurd HA.out (by simp [cD.l1])
    | succ k2 =>
     have H := HA.out
     clear HA
     simp only [cD.l1] at H
     by_cases c22 : x45_2 < t407
     ·rw [if_pos c22] at H
      have c22b0 : decide (x45_2 < t407) = true := decide_eq_true c22
      clear c22
      replace H := Option.bind_eq_some_iff.mp H
      obtain ⟨⟨t410, t411, t412⟩, A230, H⟩ := H
      replace H : (cD.l2 k2 ([] : List Int) t407 x45_2 t410 0 l0 t411 t412 x398001_1 x398002_2 t394) = some (r1, r2, r3, r4, r5) := H
      have A23 := Aside0.mk A230
      clear A230
      have H' := Aside0.mk H
      clear H
      go_wp2_with (first | (go_at_call 33; (with_reducible refine (cD1.calls 1 gb393 l0 t408 t409 t410 t411 t412 w _ ?side1 ?side2 A23.out).mono ?_); (case side1 => repeat (first | (with_reducible first | exact HI393.out | apply IsN.alloc | apply IsN.drewN | apply IsN.drew | apply IsN.set_1 | apply IsN.set_2 | refine IsN.far ?_ NB393_392.out _ | refine IsN.far ?_ NB393_397.out _) | exact HI393.out)); (case side2 => repeat (first | (with_reducible first | exact HB.out | apply bA | apply bN | apply bD | refine bS ?_ (IsN.ge HI393.out) | refine bS ?_ GE392.out | refine bS ?_ GE397.out) | exact HB.out)); rintro e w24 ⟨rfl, hi, hb, hk⟩; have n0_ := Aside0.mk (Kd.R_mono (R_keepN (IsN.apart (show IsN w _ gb393 l0 t408 t409 from by repeat (first | (with_reducible first | exact HI393.out | apply IsN.alloc | apply IsN.drewN | apply IsN.drew | apply IsN.set_1 | apply IsN.set_2 | refine IsN.far ?_ NB393_392.out _ | refine IsN.far ?_ NB393_397.out _) | exact HI393.out)) (by (with_reducible repeat (first | apply Kd.R_alloc | apply Kd.R_drewN | apply Kd.R_drew)); exact HO_398001.out) (by decide)) hk (by decide)) (fun _ h => h.1)); have n1_ := Aside0.mk (Kd.R_mono (R_keepN (IsN.apart (show IsN w _ gb393 l0 t408 t409 from by repeat (first | (with_reducible first | exact HI393.out | apply IsN.alloc | apply IsN.drewN | apply IsN.drew | apply IsN.set_1 | apply IsN.set_2 | refine IsN.far ?_ NB393_392.out _ | refine IsN.far ?_ NB393_397.out _) | exact HI393.out)) (by (with_reducible repeat (first | apply Kd.R_alloc | apply Kd.R_drewN | apply Kd.R_drew)); exact HO_398002.out) (by decide)) hk (by decide)) (fun _ h => h.1)); have n2_ := Aside0.mk (KB_blk hk (g' := gb392) (o := .cells #[.slice none 0 0, .slice none 0 0, .slice none 0 0, .int .i64 0] 26 (0, 0)) (by (with_reducible repeat (first | refine kN ?_ _ | refine kD ?_ | refine kA ?_ _)); exact BK392.out) (by exact ⟨by decide, by decide⟩)); have n3_ := Aside0.mk (KB_blk hk (g' := gb397) (o := .cells #[.slice none 0 0, u398001, u398002, .int .i64 t394] 26 (0, 0)) (by (with_reducible repeat (first | refine kN ?_ _ | refine kD ?_ | refine kA ?_ _)); exact BK397.out) (by exact ⟨by decide, by decide⟩)); have n4_ := Aside0.mk (hb); have n5_ := Aside0.mk (hi); clear HO_398001; clear HO_398002; clear BK392; clear BK397; clear HB; clear HI393; have HO_398001 := n0_; have HO_398002 := n1_; have BK392 := n2_; have BK397 := n3_; have HB := n4_; have HI393 := n5_; clear n0_ n1_ n2_ n3_ n4_ n5_; (try clear hb); (try clear hb2); (try clear hk); (try clear hi)))
      go_loopg [8, 49] k2 (fun kq v8 v49 w' => ∃ (x8_3 : List Int) (x49_3 : Int) (ti_ : Int) (ts_ : Bool), v49 = .int .i64 x49_3 ∧ Aside0 (cD.l2 kq x8_3 t407 x45_2 t410 x49_3 l0 ti_ ts_ x398001_1 x398002_2 t394 = some (r1, r2, r3, r4, r5)) ∧ Aside0 (kq ≤ k2) ∧ Aside0 (Kd.R (Kd.int .u8) 5 w' w.heap.size (fun _ => True) v8 x8_3) ∧ Aside0 (Kd.R (Kd.int .i64) 3 w' w.heap.size (fun _ => True) u398001 x398001_1) ∧ Aside0 (Kd.R Kd.string 9 w' w.heap.size (fun _ => True) u398002 x398002_2) ∧ Aside0 (w'.heap[gb392]? = some (.cells #[(.slice none 0 0), (.slice none 0 0), (.slice none 0 0), .int .i64 0] 26 (0, 0))) ∧ Aside0 (w'.heap[gb397]? = some (.cells #[(.slice none 0 0), u398001, u398002, .int .i64 t394] 26 (0, 0))) ∧ Aside0 (IsN w w' gb393 l0 ti_ ts_) ∧ Aside0 (Below w.heap.size w w'))
      case atStart => exact ⟨(([] : List Int)), (0), _, _, (by first | rfl | (simp; done) | (simp [*]; done)), H', ⟨Nat.le_refl _⟩, ⟨by first | exact Kd.R_nil _ _ _ _ _ | exact Kd.N_nil _ _ _ _ _ | exact Kd.V_nil _ _ _ _ _ | exact Kd.Q_nil _ _ _ _ _ | exact Kd.S_nil _ _ _ _ _⟩, ⟨by (with_reducible repeat (first | apply Kd.R_alloc | apply Kd.R_drewN | apply Kd.R_drew)); exact HO_398001.out⟩, ⟨by (with_reducible repeat (first | apply Kd.R_alloc | apply Kd.R_drewN | apply Kd.R_drew)); exact HO_398002.out⟩, ⟨by (with_reducible repeat (first | refine kN ?_ _ | refine kD ?_ | refine kA ?_ _)); exact BK392.out⟩, ⟨by (with_reducible repeat (first | refine kN ?_ _ | refine kD ?_ | refine kA ?_ _)); exact BK397.out⟩, ⟨by repeat (first | (with_reducible first | exact HI393.out | apply IsN.alloc | apply IsN.drewN | apply IsN.drew | apply IsN.set_1 | apply IsN.set_2 | refine IsN.far ?_ NB393_392.out _ | refine IsN.far ?_ NB393_397.out _) | exact HI393.out)⟩, ⟨by repeat (first | (with_reducible first | exact HB.out | apply bA | apply bN | apply bD | refine bS ?_ (IsN.ge HI393.out) | refine bS ?_ GE392.out | refine bS ?_ GE397.out) | exact HB.out)⟩⟩
      case round =>
       clear H'
       try clear c22b0
       obtain ⟨x8_3, x49_3, t411, t412, rfl, HA, HK3, HO_8, HO_398001, HO_398002, BK392, BK397, HI393, HB⟩ := hrel
       cases gk with
       | zero => exact absurd HA.out (by simp [cD.l2])
       | succ k3 =>
        have H := HA.out
        clear HA
        simp only [cD.l2] at H
        by_cases c25 : x49_3 < t410
        ·rw [if_pos c25] at H
         have c25b0 : decide (x49_3 < t410) = true := decide_eq_true c25
         clear c25
         replace H := Option.bind_eq_some_iff.mp H
         obtain ⟨⟨t413, t414, t415⟩, A260, H⟩ := H
         replace H : (if x8_3.length < 140737488355328 then (cD.l2 k3 (x8_3 ++ [(t413) % 256]) t407 x45_2 t410 (wrap64 (x49_3 + 1)) l0 t414 t415 x398001_1 x398002_2 t394) else (none)) = some (r1, r2, r3, r4, r5) := H
         have A26 := Aside0.mk A260
         clear A260
         by_cases c27 : x8_3.length < 140737488355328
         ·rw [if_pos c27] at H
          have LMc27 := Aside0.mk c27
          clear c27
          obtain ⟨y416, hy416⟩ : ∃ y_ : List Int, y_ = (x8_3 ++ [(t413) % 256]) := ⟨_, rfl⟩
          replace H : (cD.l2 k3 y416 t407 x45_2 t410 (wrap64 (x49_3 + 1)) l0 t414 t415 x398001_1 x398002_2 t394) = some (r1, r2, r3, r4, r5) := by first | (rw [hy416]; with_reducible exact H) | (have H2_ := (Option.bind_some _ _).symm.trans H; rw [hy416]; with_reducible exact H2_) | (have H2_ := (Option.bind_some _ _).symm.trans H; with_reducible exact H2_) | with_reducible exact H | (rw [hy416]; exact H) | exact H
          have Ny416 := Aside0.mk hy416
          clear hy416
          have H' := Aside0.mk H
          clear H
          go_wp2_with (first | (go_at_call 33; (with_reducible refine (cD1.calls 1 gb393 l0 t411 t412 t413 t414 t415 w _ ?side1 ?side2 A26.out).mono ?_); (case side1 => repeat (first | (with_reducible first | exact HI393.out | apply IsN.alloc | apply IsN.drewN | apply IsN.drew | apply IsN.set_1 | apply IsN.set_2 | refine IsN.far ?_ NB393_392.out _ | refine IsN.far ?_ NB393_397.out _) | exact HI393.out)); (case side2 => repeat (first | (with_reducible first | exact HB.out | apply bA | apply bN | apply bD | refine bS ?_ (IsN.ge HI393.out) | refine bS ?_ GE392.out | refine bS ?_ GE397.out) | exact HB.out)); rintro e w28 ⟨rfl, hi, hb, hk⟩; have n0_ := Aside0.mk (Kd.R_mono (R_keepN (IsN.apart (show IsN w _ gb393 l0 t411 t412 from by repeat (first | (with_reducible first | exact HI393.out | apply IsN.alloc | apply IsN.drewN | apply IsN.drew | apply IsN.set_1 | apply IsN.set_2 | refine IsN.far ?_ NB393_392.out _ | refine IsN.far ?_ NB393_397.out _) | exact HI393.out)) (by (with_reducible repeat (first | apply Kd.R_alloc | apply Kd.R_drewN | apply Kd.R_drew)); exact HO_8.out) (by decide)) hk (by decide)) (fun _ h => h.1)); have n1_ := Aside0.mk (Kd.R_mono (R_keepN (IsN.apart (show IsN w _ gb393 l0 t411 t412 from by repeat (first | (with_reducible first | exact HI393.out | apply IsN.alloc | apply IsN.drewN | apply IsN.drew | apply IsN.set_1 | apply IsN.set_2 | refine IsN.far ?_ NB393_392.out _ | refine IsN.far ?_ NB393_397.out _) | exact HI393.out)) (by (with_reducible repeat (first | apply Kd.R_alloc | apply Kd.R_drewN | apply Kd.R_drew)); exact HO_398001.out) (by decide)) hk (by decide)) (fun _ h => h.1)); have n2_ := Aside0.mk (Kd.R_mono (R_keepN (IsN.apart (show IsN w _ gb393 l0 t411 t412 from by repeat (first | (with_reducible first | exact HI393.out | apply IsN.alloc | apply IsN.drewN | apply IsN.drew | apply IsN.set_1 | apply IsN.set_2 | refine IsN.far ?_ NB393_392.out _ | refine IsN.far ?_ NB393_397.out _) | exact HI393.out)) (by (with_reducible repeat (first | apply Kd.R_alloc | apply Kd.R_drewN | apply Kd.R_drew)); exact HO_398002.out) (by decide)) hk (by decide)) (fun _ h => h.1)); have n3_ := Aside0.mk (KB_blk hk (g' := gb392) (o := .cells #[.slice none 0 0, .slice none 0 0, .slice none 0 0, .int .i64 0] 26 (0, 0)) (by (with_reducible repeat (first | refine kN ?_ _ | refine kD ?_ | refine kA ?_ _)); exact BK392.out) (by exact ⟨by decide, by decide⟩)); have n4_ := Aside0.mk (KB_blk hk (g' := gb397) (o := .cells #[.slice none 0 0, u398001, u398002, .int .i64 t394] 26 (0, 0)) (by (with_reducible repeat (first | refine kN ?_ _ | refine kD ?_ | refine kA ?_ _)); exact BK397.out) (by exact ⟨by decide, by decide⟩)); have n5_ := Aside0.mk (hb); have n6_ := Aside0.mk (hi); clear HO_8; clear HO_398001; clear HO_398002; clear BK392; clear BK397; clear HB; clear HI393; have HO_8 := n0_; have HO_398001 := n1_; have HO_398002 := n2_; have BK392 := n3_; have BK397 := n4_; have HB := n5_; have HI393 := n6_; clear n0_ n1_ n2_ n3_ n4_ n5_ n6_; (try clear hb); (try clear hb2); (try clear hk); (try clear hi)) | ((with_reducible refine gate_builtin (b := .append) (xs := #[.tmp 51, .tmp 55]) rfl ?_); (try (refine gate_guard (by rfl) ?_; dsimp only)); at_builtin; refine Kd.R_append (Kd.int .u8) (w0 := w) w.heap.size rfl (.tmp 51) (.tmp 55) 28 5 (.int .u8 0) 1 rfl Try.underlying28 info5 rfl (by decide) (by omega) u8 x8_3 ((t413) % 256) [.int .u8 ((t413) % 256)] (fun _ => True) (fun _ => False) rfl rfl ?aP (fun _ hk => hk.elim) ?aF ?aO ?aB ?aS ?aL ?_; (case aP => exact rfl); (case aB => exact (by repeat (first | (with_reducible first | exact HB.out | apply bA | apply bN | apply bD | refine bS ?_ (IsN.ge HI393.out) | refine bS ?_ GE392.out | refine bS ?_ GE397.out) | exact HB.out))); (case aF => exact (fun _ _ => trivial)); (case aO => exact (by (with_reducible repeat (first | apply Kd.R_alloc | apply Kd.R_drewN | apply Kd.R_drew)); exact HO_8.out)); (case aS => exact (bZ (by repeat (first | (with_reducible first | exact HB.out | apply bA | apply bN | apply bD | refine bS ?_ (IsN.ge HI393.out) | refine bS ?_ GE392.out | refine bS ?_ GE397.out) | exact HB.out)))); (case aL => have := LMc27.out; omega); intro v417 w29 ho hb hg hat; rw [← Ny416.out] at ho; have n0_ := Aside0.mk (Kd.R_over' (by (with_reducible repeat (first | apply Kd.R_alloc | apply Kd.R_drewN | apply Kd.R_drew)); exact HO_398001.out) (Kd.R_typed (by (with_reducible repeat (first | apply Kd.R_alloc | apply Kd.R_drewN | apply Kd.R_drew)); exact HO_8.out)) (by decide) hg); have n1_ := Aside0.mk (Kd.R_over' (by (with_reducible repeat (first | apply Kd.R_alloc | apply Kd.R_drewN | apply Kd.R_drew)); exact HO_398002.out) (Kd.R_typed (by (with_reducible repeat (first | apply Kd.R_alloc | apply Kd.R_drewN | apply Kd.R_drew)); exact HO_8.out)) (by decide) hg); have n2_ := Aside0.mk (blk_grown (g := gb392) (o := .cells #[.slice none 0 0, .slice none 0 0, .slice none 0 0, .int .i64 0] 26 (0, 0)) (by (with_reducible repeat (first | refine kN ?_ _ | refine kD ?_ | refine kA ?_ _)); exact BK392.out) hg (Kd.R_ne HO_8.out BK392.out (by decide))); have n3_ := Aside0.mk (blk_grown (g := gb397) (o := .cells #[.slice none 0 0, u398001, u398002, .int .i64 t394] 26 (0, 0)) (by (with_reducible repeat (first | refine kN ?_ _ | refine kD ?_ | refine kA ?_ _)); exact BK397.out) hg (Kd.R_ne HO_8.out BK397.out (by decide))); have n4_ := Aside0.mk (IsN.grown (by repeat (first | (with_reducible first | exact HI393.out | apply IsN.alloc | apply IsN.drewN | apply IsN.drew | apply IsN.set_1 | apply IsN.set_2 | refine IsN.far ?_ NB393_392.out _ | refine IsN.far ?_ NB393_397.out _) | exact HI393.out)) hg (IsN.own_ne HI393.out HO_8.out (by decide))); have n5_ := Aside0.mk (hb); have n6_ := Aside0.mk (ho); clear HO_398001; clear HO_398002; clear BK392; clear BK397; clear HI393; clear HB; clear HO_8; have HO_398001 := n0_; have HO_398002 := n1_; have BK392 := n2_; have BK397 := n3_; have HI393 := n4_; have HB := n5_; have HO418 := n6_; clear n0_ n1_ n2_ n3_ n4_ n5_ n6_; clear ho hb hg hat))
          go_roundg k3
          case measure => have := HK1.out; have := HK2.out; have := HK3.out; omega
          case rel => exact ⟨(y416), (wrap64 (x49_3 + 1)), _, _, (by first | rfl | (simp; done) | (simp [*]; done)), H', ⟨by have := HK1.out; have := HK2.out; have := HK3.out; omega⟩, ⟨by (with_reducible repeat (first | apply Kd.R_alloc | apply Kd.R_drewN | apply Kd.R_drew)); exact HO418.out⟩, ⟨by (with_reducible repeat (first | apply Kd.R_alloc | apply Kd.R_drewN | apply Kd.R_drew)); exact HO_398001.out⟩, ⟨by (with_reducible repeat (first | apply Kd.R_alloc | apply Kd.R_drewN | apply Kd.R_drew)); exact HO_398002.out⟩, ⟨by (with_reducible repeat (first | refine kN ?_ _ | refine kD ?_ | refine kA ?_ _)); exact BK392.out⟩, ⟨by (with_reducible repeat (first | refine kN ?_ _ | refine kD ?_ | refine kA ?_ _)); exact BK397.out⟩, ⟨by repeat (first | (with_reducible first | exact HI393.out | apply IsN.alloc | apply IsN.drewN | apply IsN.drew | apply IsN.set_1 | apply IsN.set_2 | refine IsN.far ?_ NB393_392.out _ | refine IsN.far ?_ NB393_397.out _) | exact HI393.out)⟩, ⟨by repeat (first | (with_reducible first | exact HB.out | apply bA | apply bN | apply bD | refine bS ?_ (IsN.ge HI393.out) | refine bS ?_ GE392.out | refine bS ?_ GE397.out) | exact HB.out)⟩⟩
         rw [if_neg c27] at H
         exact absurd H (by simp)
        rw [if_neg c25] at H
        have c25b0 : decide (x49_3 < t410) = false := decide_eq_false c25
        clear c25
        by_cases c30 : x398002_2.length < 8796093022208
        ·rw [if_pos c30] at H
         have LMc30 := Aside0.mk c30
         clear c30
         obtain ⟨y419, hy419⟩ : ∃ y_ : List ByteArray, y_ = (x398002_2 ++ [strOfNums x8_3]) := ⟨_, rfl⟩
         replace H : (cD.l1 k3 t407 (wrap64 (x45_2 + 1)) l0 t411 t412 x398001_1 y419 t394) = some (r1, r2, r3, r4, r5) := by first | (rw [hy419]; with_reducible exact H) | (have H2_ := (Option.bind_some _ _).symm.trans H; rw [hy419]; with_reducible exact H2_) | (have H2_ := (Option.bind_some _ _).symm.trans H; with_reducible exact H2_) | with_reducible exact H | (rw [hy419]; exact H) | exact H
         have Ny419 := Aside0.mk hy419
         clear hy419
         have H' := Aside0.mk H
         clear H
         have hnb31 := NB397_392.out
         have hnc31 := NB392_397.out
         have hnb32 := NB397_393.out
         have hnc32 := NB393_397.out
         have hcz33_0 : wr.cell? ⟨gb397, 0, none⟩ = some (.slice none 0 0) := (kC BK397.out 0).trans rfl
         have hcz33_1 : wr.cell? ⟨gb397, 1, none⟩ = some (u398001) := (kC BK397.out 1).trans rfl
         have hcz33_2 : wr.cell? ⟨gb397, 2, none⟩ = some (u398002) := (kC BK397.out 2).trans rfl
         have hcz33_3 : wr.cell? ⟨gb397, 3, none⟩ = some (.int .i64 t394) := (kC BK397.out 3).trans rfl
         have hfz33_0 := kF BK397.out 0
         have hfz33_1 := kF BK397.out 1
         have hfz33_2 := kF BK397.out 2
         have hfz33_3 := kF BK397.out 3
         have hcv34 := own_string (P := Try.prog) Try.underlying28 Try.underlying5 Try.underlying9 (Kd.own_of_R HO_8.out)
         go_wp2_with (first | ((with_reducible refine gate_builtin (b := .append) (xs := #[.tmp 59, .tmp 62]) rfl ?_); (try (refine gate_guard (by rfl) ?_; dsimp only)); at_builtin; refine Kd.R_append Kd.string (w0 := w) w.heap.size rfl (.tmp 59) (.tmp 62) 24 9 (.string ⟨#[]⟩) 16 rfl Try.underlying24 info9 rfl (by decide) (by omega) u398002 x398002_2 (strOfNums x8_3) [.string (strOfNums x8_3)] (fun _ => True) (fun _ => False) rfl rfl ?aP (fun _ hk => hk.elim) ?aF ?aO ?aB ?aS ?aL ?_; (case aP => exact rfl); (case aB => exact (by repeat (first | (with_reducible first | exact HB.out | apply bA | apply bN | apply bD | refine bS ?_ (IsN.ge HI393.out) | refine bS ?_ GE392.out | refine bS ?_ GE397.out) | exact HB.out))); (case aF => exact (fun _ _ => trivial)); (case aO => exact (by (with_reducible repeat (first | apply Kd.R_alloc | apply Kd.R_drewN | apply Kd.R_drew)); exact HO_398002.out)); (case aS => exact (bZ (by repeat (first | (with_reducible first | exact HB.out | apply bA | apply bN | apply bD | refine bS ?_ (IsN.ge HI393.out) | refine bS ?_ GE392.out | refine bS ?_ GE397.out) | exact HB.out)))); (case aL => have := LMc30.out; omega); intro v420 w35 ho hb hg hat; rw [← Ny419.out] at ho; have n0_ := Aside0.mk (Kd.R_over' (by (with_reducible repeat (first | apply Kd.R_alloc | apply Kd.R_drewN | apply Kd.R_drew)); exact HO_8.out) (Kd.R_typed (by (with_reducible repeat (first | apply Kd.R_alloc | apply Kd.R_drewN | apply Kd.R_drew)); exact HO_398002.out)) (by decide) hg); have n1_ := Aside0.mk (Kd.R_over' (by (with_reducible repeat (first | apply Kd.R_alloc | apply Kd.R_drewN | apply Kd.R_drew)); exact HO_398001.out) (Kd.R_typed (by (with_reducible repeat (first | apply Kd.R_alloc | apply Kd.R_drewN | apply Kd.R_drew)); exact HO_398002.out)) (by decide) hg); have n2_ := Aside0.mk (blk_grown (g := gb392) (o := .cells #[.slice none 0 0, .slice none 0 0, .slice none 0 0, .int .i64 0] 26 (0, 0)) (by (with_reducible repeat (first | refine kN ?_ _ | refine kD ?_ | refine kA ?_ _)); exact BK392.out) hg (Kd.R_ne HO_398002.out BK392.out (by decide))); have n3_ := Aside0.mk (blk_grown (g := gb397) (o := .cells #[.slice none 0 0, u398001, u398002, .int .i64 t394] 26 (0, 0)) (by (with_reducible repeat (first | refine kN ?_ _ | refine kD ?_ | refine kA ?_ _)); exact BK397.out) hg (Kd.R_ne HO_398002.out BK397.out (by decide))); have n4_ := Aside0.mk (IsN.grown (by repeat (first | (with_reducible first | exact HI393.out | apply IsN.alloc | apply IsN.drewN | apply IsN.drew | apply IsN.set_1 | apply IsN.set_2 | refine IsN.far ?_ NB393_392.out _ | refine IsN.far ?_ NB393_397.out _) | exact HI393.out)) hg (IsN.own_ne HI393.out HO_398002.out (by decide))); have n5_ := Aside0.mk (hb); have n6_ := Aside0.mk (ho); clear HO_8; clear HO_398001; clear BK392; clear BK397; clear HI393; clear HB; clear HO_398002; have HO_8 := n0_; have HO_398001 := n1_; have BK392 := n2_; have BK397 := n3_; have HI393 := n4_; have HB := n5_; have HO421 := n6_; clear n0_ n1_ n2_ n3_ n4_ n5_ n6_; clear ho hb hg hat; obtain ⟨Ao36, co36, eo36⟩ := Kd.R_slice HO421.out; subst eo36; have hcz37_0 : w35.cell? ⟨gb397, 0, none⟩ = some (.slice none 0 0) := (kC BK397.out 0).trans rfl; have hcz37_1 : w35.cell? ⟨gb397, 1, none⟩ = some (u398001) := (kC BK397.out 1).trans rfl; have hcz37_2 : w35.cell? ⟨gb397, 2, none⟩ = some (u398002) := (kC BK397.out 2).trans rfl; have hcz37_3 : w35.cell? ⟨gb397, 3, none⟩ = some (.int .i64 t394) := (kC BK397.out 3).trans rfl; have hfz37_0 := kF BK397.out 0; have hfz37_1 := kF BK397.out 1; have hfz37_2 := kF BK397.out 2; have hfz37_3 := kF BK397.out 3))
         go_roundg k3
         case measure => have := HK1.out; have := HK2.out; have := HK3.out; omega
         case rel => exact ⟨(wrap64 (x45_2 + 1)), (y419), (.slice Ao36 y419.length co36), _, _, (by first | rfl | (simp; done) | (simp [*]; done)), H', ⟨by have := HK1.out; have := HK2.out; have := HK3.out; omega⟩, ⟨by (with_reducible repeat (first | apply Kd.R_alloc | apply Kd.R_drewN | apply Kd.R_drew)); exact Kd.R_mono (Kd.R_far (p := ⟨gb397, 2, none⟩) (Kd.R_types HO_398001.out BK397.out (by decide)) (fun _ hk => hk.2) (.slice Ao36 y419.length co36)) (fun _ hk => trivial)⟩, ⟨by (with_reducible repeat (first | apply Kd.R_alloc | apply Kd.R_drewN | apply Kd.R_drew)); exact Kd.R_mono (Kd.R_far (p := ⟨gb397, 2, none⟩) (Kd.R_types HO421.out BK397.out (by decide)) (fun _ hk => hk.2) (.slice Ao36 y419.length co36)) (fun _ hk => trivial)⟩, ⟨by (with_reducible repeat (first | refine kN ?_ _ | refine kD ?_ | refine kA ?_ _)); refine blk_far ?_ NB392_397.out _; (with_reducible repeat (first | refine kN ?_ _ | refine kD ?_ | refine kA ?_ _)); exact BK392.out⟩, ⟨by (with_reducible repeat (first | refine kN ?_ _ | refine kD ?_ | refine kA ?_ _)); refine kP (cs := #[.slice none 0 0, u398001, u398002, .int .i64 t394]) ?_ 2 _ rfl; (with_reducible repeat (first | refine kN ?_ _ | refine kD ?_ | refine kA ?_ _)); exact BK397.out⟩, ⟨by repeat (first | (with_reducible first | exact HI393.out | apply IsN.alloc | apply IsN.drewN | apply IsN.drew | apply IsN.set_1 | apply IsN.set_2 | refine IsN.far ?_ NB393_392.out _ | refine IsN.far ?_ NB393_397.out _) | exact HI393.out)⟩, ⟨by repeat (first | (with_reducible first | exact HB.out | apply bA | apply bN | apply bD | refine bS ?_ (IsN.ge HI393.out) | refine bS ?_ GE392.out | refine bS ?_ GE397.out) | exact HB.out)⟩⟩
        rw [if_neg c30] at H
        exact absurd H (by simp)
     rw [if_neg c22] at H
     have c22b0 : decide (x45_2 < t407) = false := decide_eq_false c22
     clear c22
     replace H := Option.bind_eq_some_iff.mp H
     obtain ⟨⟨t422, t423, t424⟩, A380, H⟩ := H
     replace H : (cD.l3 k2 t422 0 l0 t423 t424 ([] : List (S40)) x398001_1 x398002_2 t394) = some (r1, r2, r3, r4, r5) := H
     have A38 := Aside0.mk A380
     clear A380
     have H' := Aside0.mk H
     clear H
     go_wp2_with (first | (go_at_call 33; (with_reducible refine (cD1.calls 1 gb393 l0 t408 t409 t422 t423 t424 w _ ?side1 ?side2 A38.out).mono ?_); (case side1 => repeat (first | (with_reducible first | exact HI393.out | apply IsN.alloc | apply IsN.drewN | apply IsN.drew | apply IsN.set_1 | apply IsN.set_2 | refine IsN.far ?_ NB393_392.out _ | refine IsN.far ?_ NB393_397.out _) | exact HI393.out)); (case side2 => repeat (first | (with_reducible first | exact HB.out | apply bA | apply bN | apply bD | refine bS ?_ (IsN.ge HI393.out) | refine bS ?_ GE392.out | refine bS ?_ GE397.out) | exact HB.out)); rintro e w39 ⟨rfl, hi, hb, hk⟩; have n0_ := Aside0.mk (Kd.R_mono (R_keepN (IsN.apart (show IsN w _ gb393 l0 t408 t409 from by repeat (first | (with_reducible first | exact HI393.out | apply IsN.alloc | apply IsN.drewN | apply IsN.drew | apply IsN.set_1 | apply IsN.set_2 | refine IsN.far ?_ NB393_392.out _ | refine IsN.far ?_ NB393_397.out _) | exact HI393.out)) (by (with_reducible repeat (first | apply Kd.R_alloc | apply Kd.R_drewN | apply Kd.R_drew)); exact HO_398001.out) (by decide)) hk (by decide)) (fun _ h => h.1)); have n1_ := Aside0.mk (Kd.R_mono (R_keepN (IsN.apart (show IsN w _ gb393 l0 t408 t409 from by repeat (first | (with_reducible first | exact HI393.out | apply IsN.alloc | apply IsN.drewN | apply IsN.drew | apply IsN.set_1 | apply IsN.set_2 | refine IsN.far ?_ NB393_392.out _ | refine IsN.far ?_ NB393_397.out _) | exact HI393.out)) (by (with_reducible repeat (first | apply Kd.R_alloc | apply Kd.R_drewN | apply Kd.R_drew)); exact HO_398002.out) (by decide)) hk (by decide)) (fun _ h => h.1)); have n2_ := Aside0.mk (KB_blk hk (g' := gb392) (o := .cells #[.slice none 0 0, .slice none 0 0, .slice none 0 0, .int .i64 0] 26 (0, 0)) (by (with_reducible repeat (first | refine kN ?_ _ | refine kD ?_ | refine kA ?_ _)); exact BK392.out) (by exact ⟨by decide, by decide⟩)); have n3_ := Aside0.mk (KB_blk hk (g' := gb397) (o := .cells #[.slice none 0 0, u398001, u398002, .int .i64 t394] 26 (0, 0)) (by (with_reducible repeat (first | refine kN ?_ _ | refine kD ?_ | refine kA ?_ _)); exact BK397.out) (by exact ⟨by decide, by decide⟩)); have n4_ := Aside0.mk (hb); have n5_ := Aside0.mk (hi); clear HO_398001; clear HO_398002; clear BK392; clear BK397; clear HB; clear HI393; have HO_398001 := n0_; have HO_398002 := n1_; have BK392 := n2_; have BK397 := n3_; have HB := n4_; have HI393 := n5_; clear n0_ n1_ n2_ n3_ n4_ n5_; (try clear hb); (try clear hb2); (try clear hk); (try clear hi)))
     go_loopg [68] k2 (fun kq v68 w' => ∃ (x68_3 : Int) (x398000_3 : List (S40)) (u398000 : Value) (ti_ : Int) (ts_ : Bool), v68 = .int .i64 x68_3 ∧ Aside0 (cD.l3 kq t422 x68_3 l0 ti_ ts_ x398000_3 x398001_1 x398002_2 t394 = some (r1, r2, r3, r4, r5)) ∧ Aside0 (kq ≤ k2) ∧ Aside0 (Kd.S k40 40 w' w.heap.size (fun _ => True) u398000 x398000_3) ∧ Aside0 (Kd.R (Kd.int .i64) 3 w' w.heap.size (fun _ => True) u398001 x398001_1) ∧ Aside0 (Kd.R Kd.string 9 w' w.heap.size (fun _ => True) u398002 x398002_2) ∧ Aside0 (w'.heap[gb392]? = some (.cells #[(.slice none 0 0), (.slice none 0 0), (.slice none 0 0), .int .i64 0] 26 (0, 0))) ∧ Aside0 (w'.heap[gb397]? = some (.cells #[u398000, u398001, u398002, .int .i64 t394] 26 (0, 0))) ∧ Aside0 (IsN w w' gb393 l0 ti_ ts_) ∧ Aside0 (Below w.heap.size w w'))
     case atStart => exact ⟨(0), (([] : List (S40))), (.slice none 0 0), _, _, (by first | rfl | (simp; done) | (simp [*]; done)), H', ⟨Nat.le_refl _⟩, ⟨by first | exact Kd.S_nil _ _ _ _ _ | exact Kd.N_nil _ _ _ _ _ | exact Kd.V_nil _ _ _ _ _ | exact Kd.Q_nil _ _ _ _ _ | exact Kd.R_nil _ _ _ _ _⟩, ⟨by (with_reducible repeat (first | apply Kd.R_alloc | apply Kd.R_drewN | apply Kd.R_drew)); exact HO_398001.out⟩, ⟨by (with_reducible repeat (first | apply Kd.R_alloc | apply Kd.R_drewN | apply Kd.R_drew)); exact HO_398002.out⟩, ⟨by (with_reducible repeat (first | refine kN ?_ _ | refine kD ?_ | refine kA ?_ _)); exact BK392.out⟩, ⟨by (with_reducible repeat (first | refine kN ?_ _ | refine kD ?_ | refine kA ?_ _)); exact BK397.out⟩, ⟨by repeat (first | (with_reducible first | exact HI393.out | apply IsN.alloc | apply IsN.drewN | apply IsN.drew | apply IsN.set_1 | apply IsN.set_2 | refine IsN.far ?_ NB393_392.out _ | refine IsN.far ?_ NB393_397.out _) | exact HI393.out)⟩, ⟨by repeat (first | (with_reducible first | exact HB.out | apply bA | apply bN | apply bD | refine bS ?_ (IsN.ge HI393.out) | refine bS ?_ GE392.out | refine bS ?_ GE397.out) | exact HB.out)⟩⟩
     case round =>
      clear H'
      try clear c22b0
      obtain ⟨x68_3, x398000_3, u398000, t423, t424, rfl, HA, HK3, HO_398000, HO_398001, HO_398002, BK392, BK397, HI393, HB⟩ := hrel
      cases gk with
      | zero => exact absurd HA.out (by simp [cD.l3])
      | succ k3 =>
       have H := HA.out
       clear HA
       simp only [cD.l3] at H
       by_cases c40 : x68_3 < t422
       ·rw [if_pos c40] at H
        have c40b0 : decide (x68_3 < t422) = true := decide_eq_true c40
        clear c40
        replace H := Option.bind_eq_some_iff.mp H
        obtain ⟨⟨t426, t427, t428⟩, A410, H⟩ := H
        replace H : ((cD1.f 1 l0 t427 t428).bind fun bt429 => ((cD1.f 1 l0 bt429.2.1 bt429.2.2).bind fun bt432 => ((cD1.f 2 l0 bt432.2.1 bt432.2.2).bind fun bt436 => (cD.l4 k3 t422 x68_3 bt436.1 0 l0 bt436.2.1 bt436.2.2 x398000_3 x398001_1 x398002_2 t394 t426 bt429.1 bt432.1 ([] : List (S42)))))) = some (r1, r2, r3, r4, r5) := H
        have A41 := Aside0.mk A410
        clear A410
        replace H := Option.bind_eq_some_iff.mp H
        obtain ⟨⟨t429, t430, t431⟩, A420, H⟩ := H
        replace H : ((cD1.f 1 l0 t430 t431).bind fun bt432 => ((cD1.f 2 l0 bt432.2.1 bt432.2.2).bind fun bt436 => (cD.l4 k3 t422 x68_3 bt436.1 0 l0 bt436.2.1 bt436.2.2 x398000_3 x398001_1 x398002_2 t394 t426 t429 bt432.1 ([] : List (S42))))) = some (r1, r2, r3, r4, r5) := H
        have A42 := Aside0.mk A420
        clear A420
        replace H := Option.bind_eq_some_iff.mp H
        obtain ⟨⟨t432, t433, t434⟩, A430, H⟩ := H
        replace H : ((cD1.f 2 l0 t433 t434).bind fun bt436 => (cD.l4 k3 t422 x68_3 bt436.1 0 l0 bt436.2.1 bt436.2.2 x398000_3 x398001_1 x398002_2 t394 t426 t429 t432 ([] : List (S42)))) = some (r1, r2, r3, r4, r5) := H
        have A43 := Aside0.mk A430
        clear A430
        replace H := Option.bind_eq_some_iff.mp H
        obtain ⟨⟨t436, t437, t438⟩, A440, H⟩ := H
        replace H : (cD.l4 k3 t422 x68_3 t436 0 l0 t437 t438 x398000_3 x398001_1 x398002_2 t394 t426 t429 t432 ([] : List (S42))) = some (r1, r2, r3, r4, r5) := H
        have A44 := Aside0.mk A440
        clear A440
        have H' := Aside0.mk H
        clear H
        go_wp2_with (first | (go_at_call 33; (with_reducible refine (cD1.calls 1 gb393 l0 t423 t424 t426 t427 t428 w _ ?side1 ?side2 A41.out).mono ?_); (case side1 => repeat (first | (with_reducible first | exact HI393.out | apply IsN.alloc | apply IsN.drewN | apply IsN.drew | apply IsN.set_1 | apply IsN.set_2 | refine IsN.far ?_ NB393_392.out _ | refine IsN.far ?_ NB393_397.out _) | exact HI393.out)); (case side2 => repeat (first | (with_reducible first | exact HB.out | apply bA | apply bN | apply bD | refine bS ?_ (IsN.ge HI393.out) | refine bS ?_ GE392.out | refine bS ?_ GE397.out) | exact HB.out)); rintro e w45 ⟨rfl, hi, hb, hk⟩; have n0_ := Aside0.mk (Kd.S_mono (S_keepN (IsN.apartS (show IsN w _ gb393 l0 t423 t424 from by repeat (first | (with_reducible first | exact HI393.out | apply IsN.alloc | apply IsN.drewN | apply IsN.drew | apply IsN.set_1 | apply IsN.set_2 | refine IsN.far ?_ NB393_392.out _ | refine IsN.far ?_ NB393_397.out _) | exact HI393.out)) (by (with_reducible repeat (first | apply Kd.S_alloc | apply Kd.S_drewN | apply Kd.S_drew)); exact HO_398000.out) (by decide)) hk (by decide)) (fun _ h => h.1)); have n1_ := Aside0.mk (Kd.R_mono (R_keepN (IsN.apart (show IsN w _ gb393 l0 t423 t424 from by repeat (first | (with_reducible first | exact HI393.out | apply IsN.alloc | apply IsN.drewN | apply IsN.drew | apply IsN.set_1 | apply IsN.set_2 | refine IsN.far ?_ NB393_392.out _ | refine IsN.far ?_ NB393_397.out _) | exact HI393.out)) (by (with_reducible repeat (first | apply Kd.R_alloc | apply Kd.R_drewN | apply Kd.R_drew)); exact HO_398001.out) (by decide)) hk (by decide)) (fun _ h => h.1)); have n2_ := Aside0.mk (Kd.R_mono (R_keepN (IsN.apart (show IsN w _ gb393 l0 t423 t424 from by repeat (first | (with_reducible first | exact HI393.out | apply IsN.alloc | apply IsN.drewN | apply IsN.drew | apply IsN.set_1 | apply IsN.set_2 | refine IsN.far ?_ NB393_392.out _ | refine IsN.far ?_ NB393_397.out _) | exact HI393.out)) (by (with_reducible repeat (first | apply Kd.R_alloc | apply Kd.R_drewN | apply Kd.R_drew)); exact HO_398002.out) (by decide)) hk (by decide)) (fun _ h => h.1)); have n3_ := Aside0.mk (KB_blk hk (g' := gb392) (o := .cells #[.slice none 0 0, .slice none 0 0, .slice none 0 0, .int .i64 0] 26 (0, 0)) (by (with_reducible repeat (first | refine kN ?_ _ | refine kD ?_ | refine kA ?_ _)); exact BK392.out) (by exact ⟨by decide, by decide⟩)); have n4_ := Aside0.mk (KB_blk hk (g' := gb397) (o := .cells #[u398000, u398001, u398002, .int .i64 t394] 26 (0, 0)) (by (with_reducible repeat (first | refine kN ?_ _ | refine kD ?_ | refine kA ?_ _)); exact BK397.out) (by exact ⟨by decide, by decide⟩)); have n5_ := Aside0.mk (hb); have n6_ := Aside0.mk (hi); clear HO_398000; clear HO_398001; clear HO_398002; clear BK392; clear BK397; clear HB; clear HI393; have HO_398000 := n0_; have HO_398001 := n1_; have HO_398002 := n2_; have BK392 := n3_; have BK397 := n4_; have HB := n5_; have HI393 := n6_; clear n0_ n1_ n2_ n3_ n4_ n5_ n6_; (try clear hb); (try clear hb2); (try clear hk); (try clear hi)) | (go_at_call 33; (with_reducible refine (cD1.calls 1 gb393 l0 t427 t428 t429 t430 t431 w _ ?side1 ?side2 A42.out).mono ?_); (case side1 => repeat (first | (with_reducible first | exact HI393.out | apply IsN.alloc | apply IsN.drewN | apply IsN.drew | apply IsN.set_1 | apply IsN.set_2 | refine IsN.far ?_ NB393_392.out _ | refine IsN.far ?_ NB393_397.out _) | exact HI393.out)); (case side2 => repeat (first | (with_reducible first | exact HB.out | apply bA | apply bN | apply bD | refine bS ?_ (IsN.ge HI393.out) | refine bS ?_ GE392.out | refine bS ?_ GE397.out) | exact HB.out)); rintro e w46 ⟨rfl, hi, hb, hk⟩; have n0_ := Aside0.mk (Kd.S_mono (S_keepN (IsN.apartS (show IsN w _ gb393 l0 t427 t428 from by repeat (first | (with_reducible first | exact HI393.out | apply IsN.alloc | apply IsN.drewN | apply IsN.drew | apply IsN.set_1 | apply IsN.set_2 | refine IsN.far ?_ NB393_392.out _ | refine IsN.far ?_ NB393_397.out _) | exact HI393.out)) (by (with_reducible repeat (first | apply Kd.S_alloc | apply Kd.S_drewN | apply Kd.S_drew)); exact HO_398000.out) (by decide)) hk (by decide)) (fun _ h => h.1)); have n1_ := Aside0.mk (Kd.R_mono (R_keepN (IsN.apart (show IsN w _ gb393 l0 t427 t428 from by repeat (first | (with_reducible first | exact HI393.out | apply IsN.alloc | apply IsN.drewN | apply IsN.drew | apply IsN.set_1 | apply IsN.set_2 | refine IsN.far ?_ NB393_392.out _ | refine IsN.far ?_ NB393_397.out _) | exact HI393.out)) (by (with_reducible repeat (first | apply Kd.R_alloc | apply Kd.R_drewN | apply Kd.R_drew)); exact HO_398001.out) (by decide)) hk (by decide)) (fun _ h => h.1)); have n2_ := Aside0.mk (Kd.R_mono (R_keepN (IsN.apart (show IsN w _ gb393 l0 t427 t428 from by repeat (first | (with_reducible first | exact HI393.out | apply IsN.alloc | apply IsN.drewN | apply IsN.drew | apply IsN.set_1 | apply IsN.set_2 | refine IsN.far ?_ NB393_392.out _ | refine IsN.far ?_ NB393_397.out _) | exact HI393.out)) (by (with_reducible repeat (first | apply Kd.R_alloc | apply Kd.R_drewN | apply Kd.R_drew)); exact HO_398002.out) (by decide)) hk (by decide)) (fun _ h => h.1)); have n3_ := Aside0.mk (KB_blk hk (g' := gb392) (o := .cells #[.slice none 0 0, .slice none 0 0, .slice none 0 0, .int .i64 0] 26 (0, 0)) (by (with_reducible repeat (first | refine kN ?_ _ | refine kD ?_ | refine kA ?_ _)); exact BK392.out) (by exact ⟨by decide, by decide⟩)); have n4_ := Aside0.mk (KB_blk hk (g' := gb397) (o := .cells #[u398000, u398001, u398002, .int .i64 t394] 26 (0, 0)) (by (with_reducible repeat (first | refine kN ?_ _ | refine kD ?_ | refine kA ?_ _)); exact BK397.out) (by exact ⟨by decide, by decide⟩)); have n5_ := Aside0.mk (hb); have n6_ := Aside0.mk (hi); clear HO_398000; clear HO_398001; clear HO_398002; clear BK392; clear BK397; clear HB; clear HI393; have HO_398000 := n0_; have HO_398001 := n1_; have HO_398002 := n2_; have BK392 := n3_; have BK397 := n4_; have HB := n5_; have HI393 := n6_; clear n0_ n1_ n2_ n3_ n4_ n5_ n6_; (try clear hb); (try clear hb2); (try clear hk); (try clear hi)) | (go_at_call 33; (with_reducible refine (cD1.calls 1 gb393 l0 t430 t431 t432 t433 t434 w _ ?side1 ?side2 A43.out).mono ?_); (case side1 => repeat (first | (with_reducible first | exact HI393.out | apply IsN.alloc | apply IsN.drewN | apply IsN.drew | apply IsN.set_1 | apply IsN.set_2 | refine IsN.far ?_ NB393_392.out _ | refine IsN.far ?_ NB393_397.out _) | exact HI393.out)); (case side2 => repeat (first | (with_reducible first | exact HB.out | apply bA | apply bN | apply bD | refine bS ?_ (IsN.ge HI393.out) | refine bS ?_ GE392.out | refine bS ?_ GE397.out) | exact HB.out)); rintro e w47 ⟨rfl, hi, hb, hk⟩; have n0_ := Aside0.mk (Kd.S_mono (S_keepN (IsN.apartS (show IsN w _ gb393 l0 t430 t431 from by repeat (first | (with_reducible first | exact HI393.out | apply IsN.alloc | apply IsN.drewN | apply IsN.drew | apply IsN.set_1 | apply IsN.set_2 | refine IsN.far ?_ NB393_392.out _ | refine IsN.far ?_ NB393_397.out _) | exact HI393.out)) (by (with_reducible repeat (first | apply Kd.S_alloc | apply Kd.S_drewN | apply Kd.S_drew)); exact HO_398000.out) (by decide)) hk (by decide)) (fun _ h => h.1)); have n1_ := Aside0.mk (Kd.R_mono (R_keepN (IsN.apart (show IsN w _ gb393 l0 t430 t431 from by repeat (first | (with_reducible first | exact HI393.out | apply IsN.alloc | apply IsN.drewN | apply IsN.drew | apply IsN.set_1 | apply IsN.set_2 | refine IsN.far ?_ NB393_392.out _ | refine IsN.far ?_ NB393_397.out _) | exact HI393.out)) (by (with_reducible repeat (first | apply Kd.R_alloc | apply Kd.R_drewN | apply Kd.R_drew)); exact HO_398001.out) (by decide)) hk (by decide)) (fun _ h => h.1)); have n2_ := Aside0.mk (Kd.R_mono (R_keepN (IsN.apart (show IsN w _ gb393 l0 t430 t431 from by repeat (first | (with_reducible first | exact HI393.out | apply IsN.alloc | apply IsN.drewN | apply IsN.drew | apply IsN.set_1 | apply IsN.set_2 | refine IsN.far ?_ NB393_392.out _ | refine IsN.far ?_ NB393_397.out _) | exact HI393.out)) (by (with_reducible repeat (first | apply Kd.R_alloc | apply Kd.R_drewN | apply Kd.R_drew)); exact HO_398002.out) (by decide)) hk (by decide)) (fun _ h => h.1)); have n3_ := Aside0.mk (KB_blk hk (g' := gb392) (o := .cells #[.slice none 0 0, .slice none 0 0, .slice none 0 0, .int .i64 0] 26 (0, 0)) (by (with_reducible repeat (first | refine kN ?_ _ | refine kD ?_ | refine kA ?_ _)); exact BK392.out) (by exact ⟨by decide, by decide⟩)); have n4_ := Aside0.mk (KB_blk hk (g' := gb397) (o := .cells #[u398000, u398001, u398002, .int .i64 t394] 26 (0, 0)) (by (with_reducible repeat (first | refine kN ?_ _ | refine kD ?_ | refine kA ?_ _)); exact BK397.out) (by exact ⟨by decide, by decide⟩)); have n5_ := Aside0.mk (hb); have n6_ := Aside0.mk (hi); clear HO_398000; clear HO_398001; clear HO_398002; clear BK392; clear BK397; clear HB; clear HI393; have HO_398000 := n0_; have HO_398001 := n1_; have HO_398002 := n2_; have BK392 := n3_; have BK397 := n4_; have HB := n5_; have HI393 := n6_; clear n0_ n1_ n2_ n3_ n4_ n5_ n6_; (try clear hb); (try clear hb2); (try clear hk); (try clear hi)) | ((with_reducible refine gate_dst (N := 9) rfl ?_); (try (refine gate_guard (by rfl) ?_; dsimp only)); refine box_event ?hg (N := 9) ?hd (cs := #[.int .i64 0, .int .i64 0, .int .i64 0, .slice none 0 0]) (t := 40) ?hr ?_; (case hd => rfl); (case hg => rfl); (case hr => first | (go_simp; done) | (go_simp; rfl)); intro gb435 hg w48 hbox hb; have n0_ := Aside0.mk (Kd.S_below (Kd.S_elderB (by (with_reducible repeat (first | apply Kd.S_alloc | apply Kd.S_drewN | apply Kd.S_drew)); exact HO_398000.out) gb435 (Nat.le_of_eq hg.symm)) hb); have n1_ := Aside0.mk (Kd.R_below (by (with_reducible repeat (first | apply Kd.R_alloc | apply Kd.R_drewN | apply Kd.R_drew)); exact HO_398001.out) hb); have n2_ := Aside0.mk (Kd.R_below (by (with_reducible repeat (first | apply Kd.R_alloc | apply Kd.R_drewN | apply Kd.R_drew)); exact HO_398002.out) hb); have n3_ := Aside0.mk (kB (g := gb392) (o := .cells #[.slice none 0 0, .slice none 0 0, .slice none 0 0, .int .i64 0] 26 (0, 0)) (by (with_reducible repeat (first | refine kN ?_ _ | refine kD ?_ | refine kA ?_ _)); exact BK392.out) hb); have n4_ := Aside0.mk (kB (g := gb397) (o := .cells #[u398000, u398001, u398002, .int .i64 t394] 26 (0, 0)) (by (with_reducible repeat (first | refine kN ?_ _ | refine kD ?_ | refine kA ?_ _)); exact BK397.out) hb); have n5_ := Aside0.mk (IsN.below (by repeat (first | (with_reducible first | exact HI393.out | apply IsN.alloc | apply IsN.drewN | apply IsN.drew | apply IsN.set_1 | apply IsN.set_2 | refine IsN.far ?_ NB393_392.out _ | refine IsN.far ?_ NB393_397.out _) | exact HI393.out)) hb); have n6_ := Aside0.mk (bT (by repeat (first | (with_reducible first | exact HB.out | apply bA | apply bN | apply bD | refine bS ?_ (IsN.ge HI393.out) | refine bS ?_ GE392.out | refine bS ?_ GE397.out) | exact HB.out)) hb); have n7_ := Aside0.mk (hbox); have n8_ := Aside0.mk ((by rw [hg]; exact (bZ (by repeat (first | (with_reducible first | exact HB.out | apply bA | apply bN | apply bD | refine bS ?_ (IsN.ge HI393.out) | refine bS ?_ GE392.out | refine bS ?_ GE397.out) | exact HB.out))) : w.heap.size ≤ gb435)); have n9_ := Aside0.mk ((by rw [hg]; exact (bZ (by repeat (first | (with_reducible first | exact HB.out | apply bA | apply bN | apply bD | refine bS ?_ (IsN.ge HI393.out) | refine bS ?_ GE392.out | refine bS ?_ GE397.out) | exact HB.out))) : w.heap.size ≤ gb435)); have n10_ := Aside0.mk ((by rw [hg]; exact Nat.ne_of_lt (blk_lt (g := gb392) (o := .cells #[.slice none 0 0, .slice none 0 0, .slice none 0 0, .int .i64 0] 26 (0, 0)) (by (with_reducible repeat (first | refine kN ?_ _ | refine kD ?_ | refine kA ?_ _)); exact BK392.out)) : gb392 ≠ gb435)); have n11_ := Aside0.mk ((by rw [hg]; exact Nat.ne_of_gt (blk_lt (g := gb392) (o := .cells #[.slice none 0 0, .slice none 0 0, .slice none 0 0, .int .i64 0] 26 (0, 0)) (by (with_reducible repeat (first | refine kN ?_ _ | refine kD ?_ | refine kA ?_ _)); exact BK392.out)) : gb435 ≠ gb392)); have n12_ := Aside0.mk ((by rw [hg]; exact Nat.ne_of_lt (blk_lt (g := gb397) (o := .cells #[u398000, u398001, u398002, .int .i64 t394] 26 (0, 0)) (by (with_reducible repeat (first | refine kN ?_ _ | refine kD ?_ | refine kA ?_ _)); exact BK397.out)) : gb397 ≠ gb435)); have n13_ := Aside0.mk ((by rw [hg]; exact Nat.ne_of_gt (blk_lt (g := gb397) (o := .cells #[u398000, u398001, u398002, .int .i64 t394] 26 (0, 0)) (by (with_reducible repeat (first | refine kN ?_ _ | refine kD ?_ | refine kA ?_ _)); exact BK397.out)) : gb435 ≠ gb397)); have n14_ := Aside0.mk ((by rw [hg]; exact ⟨Nat.ne_of_lt (IsN.lt (show IsN w _ gb393 l0 t433 t434 from by repeat (first | (with_reducible first | exact HI393.out | apply IsN.alloc | apply IsN.drewN | apply IsN.drew | apply IsN.set_1 | apply IsN.set_2 | refine IsN.far ?_ NB393_392.out _ | refine IsN.far ?_ NB393_397.out _) | exact HI393.out))), Nat.ne_of_lt (IsN.lt2 (show IsN w _ gb393 l0 t433 t434 from by repeat (first | (with_reducible first | exact HI393.out | apply IsN.alloc | apply IsN.drewN | apply IsN.drew | apply IsN.set_1 | apply IsN.set_2 | refine IsN.far ?_ NB393_392.out _ | refine IsN.far ?_ NB393_397.out _) | exact HI393.out)))⟩ : Ne2 gb393 gb435)); have n15_ := Aside0.mk ((by rw [hg]; exact Nat.ne_of_gt (IsN.lt (show IsN w _ gb393 l0 t433 t434 from by repeat (first | (with_reducible first | exact HI393.out | apply IsN.alloc | apply IsN.drewN | apply IsN.drew | apply IsN.set_1 | apply IsN.set_2 | refine IsN.far ?_ NB393_392.out _ | refine IsN.far ?_ NB393_397.out _) | exact HI393.out))) : gb435 ≠ gb393)); clear HO_398000; clear HO_398001; clear HO_398002; clear BK392; clear BK397; clear HI393; clear HB; have HO_398000 := n0_; have HO_398001 := n1_; have HO_398002 := n2_; have BK392 := n3_; have BK397 := n4_; have HI393 := n5_; have HB := n6_; have BK435 := n7_; have GW435 := n8_; have GE435 := n9_; have NB392_435 := n10_; have NB435_392 := n11_; have NB397_435 := n12_; have NB435_397 := n13_; have NB393_435 := n14_; have NB435_393 := n15_; clear n0_ n1_ n2_ n3_ n4_ n5_ n6_ n7_ n8_ n9_ n10_ n11_ n12_ n13_ n14_ n15_; clear hb hbox hg; have hnb49 := NB435_392.out; have hnc49 := NB392_435.out; have hnb50 := NB435_397.out; have hnc50 := NB397_435.out; have hnb51 := NB435_393.out; have hnc51 := NB393_435.out; have hcz52_0 : w48.cell? ⟨gb435, 0, none⟩ = some (.int .i64 0) := (kC BK435.out 0).trans rfl; have hcz52_1 : w48.cell? ⟨gb435, 1, none⟩ = some (.int .i64 0) := (kC BK435.out 1).trans rfl; have hcz52_2 : w48.cell? ⟨gb435, 2, none⟩ = some (.int .i64 0) := (kC BK435.out 2).trans rfl; have hcz52_3 : w48.cell? ⟨gb435, 3, none⟩ = some (.slice none 0 0) := (kC BK435.out 3).trans rfl; have hfz52_0 := kF BK435.out 0; have hfz52_1 := kF BK435.out 1; have hfz52_2 := kF BK435.out 2; have hfz52_3 := kF BK435.out 3) | (go_at_call 33; (with_reducible refine (cD1.calls 2 gb393 l0 t433 t434 t436 t437 t438 w _ ?side1 ?side2 A44.out).mono ?_); (case side1 => repeat (first | (with_reducible first | exact HI393.out | apply IsN.alloc | apply IsN.drewN | apply IsN.drew | apply IsN.set_1 | apply IsN.set_2 | refine IsN.far ?_ NB393_392.out _ | refine IsN.far ?_ NB393_397.out _ | refine IsN.far ?_ NB393_435.out _) | exact HI393.out)); (case side2 => repeat (first | (with_reducible first | exact HB.out | apply bA | apply bN | apply bD | refine bS ?_ (IsN.ge HI393.out) | refine bS ?_ GE392.out | refine bS ?_ GE397.out | refine bS ?_ GE435.out) | exact HB.out)); rintro e w53 ⟨rfl, hi, hb, hk⟩; have n0_ := Aside0.mk (Kd.S_mono (S_keepN (IsN.apartS (show IsN w _ gb393 l0 t433 t434 from by repeat (first | (with_reducible first | exact HI393.out | apply IsN.alloc | apply IsN.drewN | apply IsN.drew | apply IsN.set_1 | apply IsN.set_2 | refine IsN.far ?_ NB393_392.out _ | refine IsN.far ?_ NB393_397.out _ | refine IsN.far ?_ NB393_435.out _) | exact HI393.out)) (by (with_reducible repeat (first | apply Kd.S_alloc | apply Kd.S_drewN | apply Kd.S_drew)); exact (Kd.S_mono (Kd.S_far (p := ⟨gb435, 3, none⟩) (Kd.S_far (p := ⟨gb435, 2, none⟩) (Kd.S_far (p := ⟨gb435, 1, none⟩) (Kd.S_far (p := ⟨gb435, 0, none⟩) (Kd.S_mono HO_398000.out (fun k_ hk => (⟨hk, hk.2⟩ : _ ∧ k_ ≠ gb435))) (fun _ hk => hk.2) (.int .i64 t426)) (fun _ hk => hk.2) (.int .i64 t429)) (fun _ hk => hk.2) (.int .i64 t432)) (fun _ hk => hk.2) (.slice none 0 0)) (fun _ h_ => h_.1))) (by decide)) hk (by decide)) (fun _ h => h.1)); have n1_ := Aside0.mk (Kd.R_mono (R_keepN (IsN.apart (show IsN w _ gb393 l0 t433 t434 from by repeat (first | (with_reducible first | exact HI393.out | apply IsN.alloc | apply IsN.drewN | apply IsN.drew | apply IsN.set_1 | apply IsN.set_2 | refine IsN.far ?_ NB393_392.out _ | refine IsN.far ?_ NB393_397.out _ | refine IsN.far ?_ NB393_435.out _) | exact HI393.out)) (by (with_reducible repeat (first | apply Kd.R_alloc | apply Kd.R_drewN | apply Kd.R_drew)); exact (Kd.R_mono (Kd.R_far (p := ⟨gb435, 3, none⟩) (Kd.R_far (p := ⟨gb435, 2, none⟩) (Kd.R_far (p := ⟨gb435, 1, none⟩) (Kd.R_far (p := ⟨gb435, 0, none⟩) (Kd.R_types HO_398001.out BK435.out (by decide)) (fun _ hk => hk.2) (.int .i64 t426)) (fun _ hk => hk.2) (.int .i64 t429)) (fun _ hk => hk.2) (.int .i64 t432)) (fun _ hk => hk.2) (.slice none 0 0)) (fun _ h_ => h_.1))) (by decide)) hk (by decide)) (fun _ h => h.1)); have n2_ := Aside0.mk (Kd.R_mono (R_keepN (IsN.apart (show IsN w _ gb393 l0 t433 t434 from by repeat (first | (with_reducible first | exact HI393.out | apply IsN.alloc | apply IsN.drewN | apply IsN.drew | apply IsN.set_1 | apply IsN.set_2 | refine IsN.far ?_ NB393_392.out _ | refine IsN.far ?_ NB393_397.out _ | refine IsN.far ?_ NB393_435.out _) | exact HI393.out)) (by (with_reducible repeat (first | apply Kd.R_alloc | apply Kd.R_drewN | apply Kd.R_drew)); exact (Kd.R_mono (Kd.R_far (p := ⟨gb435, 3, none⟩) (Kd.R_far (p := ⟨gb435, 2, none⟩) (Kd.R_far (p := ⟨gb435, 1, none⟩) (Kd.R_far (p := ⟨gb435, 0, none⟩) (Kd.R_types HO_398002.out BK435.out (by decide)) (fun _ hk => hk.2) (.int .i64 t426)) (fun _ hk => hk.2) (.int .i64 t429)) (fun _ hk => hk.2) (.int .i64 t432)) (fun _ hk => hk.2) (.slice none 0 0)) (fun _ h_ => h_.1))) (by decide)) hk (by decide)) (fun _ h => h.1)); have n3_ := Aside0.mk (KB_blk hk (g' := gb392) (o := .cells #[.slice none 0 0, .slice none 0 0, .slice none 0 0, .int .i64 0] 26 (0, 0)) (by (with_reducible repeat (first | refine kN ?_ _ | refine kD ?_ | refine kA ?_ _)); refine blk_far ?_ NB392_435.out _; (with_reducible repeat (first | refine kN ?_ _ | refine kD ?_ | refine kA ?_ _)); refine blk_far ?_ NB392_435.out _; (with_reducible repeat (first | refine kN ?_ _ | refine kD ?_ | refine kA ?_ _)); refine blk_far ?_ NB392_435.out _; (with_reducible repeat (first | refine kN ?_ _ | refine kD ?_ | refine kA ?_ _)); refine blk_far ?_ NB392_435.out _; (with_reducible repeat (first | refine kN ?_ _ | refine kD ?_ | refine kA ?_ _)); exact BK392.out) (by exact ⟨by decide, by decide⟩)); have n4_ := Aside0.mk (KB_blk hk (g' := gb397) (o := .cells #[u398000, u398001, u398002, .int .i64 t394] 26 (0, 0)) (by (with_reducible repeat (first | refine kN ?_ _ | refine kD ?_ | refine kA ?_ _)); refine blk_far ?_ NB397_435.out _; (with_reducible repeat (first | refine kN ?_ _ | refine kD ?_ | refine kA ?_ _)); refine blk_far ?_ NB397_435.out _; (with_reducible repeat (first | refine kN ?_ _ | refine kD ?_ | refine kA ?_ _)); refine blk_far ?_ NB397_435.out _; (with_reducible repeat (first | refine kN ?_ _ | refine kD ?_ | refine kA ?_ _)); refine blk_far ?_ NB397_435.out _; (with_reducible repeat (first | refine kN ?_ _ | refine kD ?_ | refine kA ?_ _)); exact BK397.out) (by exact ⟨by decide, by decide⟩)); have n5_ := Aside0.mk (KB_blk hk (g' := gb435) (o := .cells #[.int .i64 t426, .int .i64 t429, .int .i64 t432, .slice none 0 0] 40 (0, 0)) (by (with_reducible repeat (first | refine kN ?_ _ | refine kD ?_ | refine kA ?_ _)); refine kP (cs := #[.int .i64 t426, .int .i64 t429, .int .i64 t432, .slice none 0 0]) ?_ 3 _ rfl; (with_reducible repeat (first | refine kN ?_ _ | refine kD ?_ | refine kA ?_ _)); refine kP (cs := #[.int .i64 t426, .int .i64 t429, .int .i64 0, .slice none 0 0]) ?_ 2 _ rfl; (with_reducible repeat (first | refine kN ?_ _ | refine kD ?_ | refine kA ?_ _)); refine kP (cs := #[.int .i64 t426, .int .i64 0, .int .i64 0, .slice none 0 0]) ?_ 1 _ rfl; (with_reducible repeat (first | refine kN ?_ _ | refine kD ?_ | refine kA ?_ _)); refine kP (cs := #[.int .i64 0, .int .i64 0, .int .i64 0, .slice none 0 0]) ?_ 0 _ rfl; (with_reducible repeat (first | refine kN ?_ _ | refine kD ?_ | refine kA ?_ _)); exact BK435.out) (by exact ⟨by decide, by decide⟩)); have n6_ := Aside0.mk (hb); have n7_ := Aside0.mk (hi); clear HO_398000; clear HO_398001; clear HO_398002; clear BK392; clear BK397; clear BK435; clear HB; clear HI393; have HO_398000 := n0_; have HO_398001 := n1_; have HO_398002 := n2_; have BK392 := n3_; have BK397 := n4_; have BK435 := n5_; have HB := n6_; have HI393 := n7_; clear n0_ n1_ n2_ n3_ n4_ n5_ n6_ n7_; (try clear hb); (try clear hb2); (try clear hk); (try clear hi)))
        go_loopg [79] k3 (fun kq v79 w' => ∃ (x79_4 : Int) (x436003_4 : List (S42)) (u436003 : Value) (ti_ : Int) (ts_ : Bool), v79 = .int .i64 x79_4 ∧ Aside0 (cD.l4 kq t422 x68_3 t436 x79_4 l0 ti_ ts_ x398000_3 x398001_1 x398002_2 t394 t426 t429 t432 x436003_4 = some (r1, r2, r3, r4, r5)) ∧ Aside0 (kq ≤ k3) ∧ Aside0 (Kd.S k40 40 w' w.heap.size (fun k_ => some k_ ≠ (u436003 : Value).ownBlock ∧ k_ ≠ gb435) u398000 x398000_3) ∧ Aside0 (Kd.R (Kd.int .i64) 3 w' w.heap.size (fun _ => True) u398001 x398001_1) ∧ Aside0 (Kd.R Kd.string 9 w' w.heap.size (fun _ => True) u398002 x398002_2) ∧ Aside0 (Kd.R k42 42 w' w.heap.size (fun _ => True) u436003 x436003_4) ∧ Aside0 (w'.heap[gb392]? = some (.cells #[(.slice none 0 0), (.slice none 0 0), (.slice none 0 0), .int .i64 0] 26 (0, 0))) ∧ Aside0 (w'.heap[gb397]? = some (.cells #[u398000, u398001, u398002, .int .i64 t394] 26 (0, 0))) ∧ Aside0 (w'.heap[gb435]? = some (.cells #[.int .i64 t426, .int .i64 t429, .int .i64 t432, u436003] 40 (0, 0))) ∧ Aside0 (IsN w w' gb393 l0 ti_ ts_) ∧ Aside0 (Below w.heap.size w w'))
        case atStart => exact ⟨(0), (([] : List (S42))), (.slice none 0 0), _, _, (by first | rfl | (simp; done) | (simp [*]; done)), H', ⟨Nat.le_refl _⟩, ⟨by (with_reducible repeat (first | apply Kd.S_alloc | apply Kd.S_drewN | apply Kd.S_drew)); exact Kd.S_mono HO_398000.out (fun _ hk => ⟨(by simp [Value.ownBlock]), hk.2⟩)⟩, ⟨by (with_reducible repeat (first | apply Kd.R_alloc | apply Kd.R_drewN | apply Kd.R_drew)); exact HO_398001.out⟩, ⟨by (with_reducible repeat (first | apply Kd.R_alloc | apply Kd.R_drewN | apply Kd.R_drew)); exact HO_398002.out⟩, ⟨by first | exact Kd.R_nil _ _ _ _ _ | exact Kd.N_nil _ _ _ _ _ | exact Kd.V_nil _ _ _ _ _ | exact Kd.Q_nil _ _ _ _ _ | exact Kd.S_nil _ _ _ _ _⟩, ⟨by (with_reducible repeat (first | refine kN ?_ _ | refine kD ?_ | refine kA ?_ _)); exact BK392.out⟩, ⟨by (with_reducible repeat (first | refine kN ?_ _ | refine kD ?_ | refine kA ?_ _)); exact BK397.out⟩, ⟨by (with_reducible repeat (first | refine kN ?_ _ | refine kD ?_ | refine kA ?_ _)); exact BK435.out⟩, ⟨by repeat (first | (with_reducible first | exact HI393.out | apply IsN.alloc | apply IsN.drewN | apply IsN.drew | apply IsN.set_1 | apply IsN.set_2 | refine IsN.far ?_ NB393_392.out _ | refine IsN.far ?_ NB393_397.out _ | refine IsN.far ?_ NB393_435.out _) | exact HI393.out)⟩, ⟨by repeat (first | (with_reducible first | exact HB.out | apply bA | apply bN | apply bD | refine bS ?_ (IsN.ge HI393.out) | refine bS ?_ GE392.out | refine bS ?_ GE397.out | refine bS ?_ GE435.out) | exact HB.out)⟩⟩
        case round =>
         clear H'
         try clear c40b0
         try clear hcz52_0
         try clear hcz52_1
         try clear hcz52_2
         try clear hcz52_3
         try clear hfz52_0
         try clear hfz52_1
         try clear hfz52_2
         try clear hfz52_3
         obtain ⟨x79_4, x436003_4, u436003, t437, t438, rfl, HA, HK4, HO_398000, HO_398001, HO_398002, HO_436003, BK392, BK397, BK435, HI393, HB⟩ := hrel
         cases gk with
         | zero => exact absurd HA.out (by simp [cD.l4])
         | succ k4 =>
          have H := HA.out
          clear HA
          simp only [cD.l4] at H
          by_cases c54 : x79_4 < t436
          ·rw [if_pos c54] at H
           have c54b0 : decide (x79_4 < t436) = true := decide_eq_true c54
           clear c54
           by_cases c55 : t438 = true
           ·subst c55
            have H1 : (if x398000_3.length < 2932031007402 then (cD.l3 k4 t422 (wrap64 (x68_3 + 1)) l0 t437 true (x398000_3 ++ [(⟨t426, t429, t432, x436003_4⟩ : S40)]) x398001_1 x398002_2 t394) else (none)) = some (r1, r2, r3, r4, r5) := by rw [if_pos rfl] at H; exact H
            clear H
            have H := H1
            clear H1
            by_cases c56 : x398000_3.length < 2932031007402
            ·rw [if_pos c56] at H
             have LMc56 := Aside0.mk c56
             clear c56
             obtain ⟨y442, hy442⟩ : ∃ y_ : List (S40), y_ = (x398000_3 ++ [(⟨t426, t429, t432, x436003_4⟩ : S40)]) := ⟨_, rfl⟩
             replace H : (cD.l3 k4 t422 (wrap64 (x68_3 + 1)) l0 t437 true y442 x398001_1 x398002_2 t394) = some (r1, r2, r3, r4, r5) := by first | (rw [hy442]; with_reducible exact H) | (have H2_ := (Option.bind_some _ _).symm.trans H; rw [hy442]; with_reducible exact H2_) | (have H2_ := (Option.bind_some _ _).symm.trans H; with_reducible exact H2_) | with_reducible exact H | (rw [hy442]; exact H) | exact H
             have Ny442 := Aside0.mk hy442
             clear hy442
             have H' := Aside0.mk H
             clear H
             obtain ⟨ASz57_0, cSz57_0, HGz57, hgz57, HSz57_0⟩ := HI393.out
             have hcz57_0 := cellN_0 HGz57
             have hcz57_1 := cellN_1 HGz57
             have hcz57_2 := cellN_2 HGz57
             have hfz57_1 := frozN_1 HGz57
             have hfz57_2 := frozN_2 HGz57
             clear HGz57 hgz57
             have hnb58 := NB397_392.out
             have hnc58 := NB392_397.out
             have hnb59 := NB397_435.out
             have hnc59 := NB435_397.out
             have hnb60 := NB397_393.out
             have hnc60 := NB393_397.out
             have hcz61_0 : wr.cell? ⟨gb397, 0, none⟩ = some (u398000) := (kC BK397.out 0).trans rfl
             have hcz61_1 : wr.cell? ⟨gb397, 1, none⟩ = some (u398001) := (kC BK397.out 1).trans rfl
             have hcz61_2 : wr.cell? ⟨gb397, 2, none⟩ = some (u398002) := (kC BK397.out 2).trans rfl
             have hcz61_3 : wr.cell? ⟨gb397, 3, none⟩ = some (.int .i64 t394) := (kC BK397.out 3).trans rfl
             have hfz61_0 := kF BK397.out 0
             have hfz61_1 := kF BK397.out 1
             have hfz61_2 := kF BK397.out 2
             have hfz61_3 := kF BK397.out 3
             have hnb62 := NB435_392.out
             have hnc62 := NB392_435.out
             have hnb63 := NB435_393.out
             have hnc63 := NB393_435.out
             have hcz64_0 : wr.cell? ⟨gb435, 0, none⟩ = some (.int .i64 t426) := (kC BK435.out 0).trans rfl
             have hcz64_1 : wr.cell? ⟨gb435, 1, none⟩ = some (.int .i64 t429) := (kC BK435.out 1).trans rfl
             have hcz64_2 : wr.cell? ⟨gb435, 2, none⟩ = some (.int .i64 t432) := (kC BK435.out 2).trans rfl
             have hcz64_3 : wr.cell? ⟨gb435, 3, none⟩ = some (u436003) := (kC BK435.out 3).trans rfl
             have hfz64_0 := kF BK435.out 0
             have hfz64_1 := kF BK435.out 1
             have hfz64_2 := kF BK435.out 2
             have hfz64_3 := kF BK435.out 3
             obtain ⟨Ao66, co66, eo66⟩ := Kd.R_slice HO_436003.out
             subst eo66
             go_wp2_with (first | ((with_reducible refine gate_builtin (b := .append) (xs := #[.tmp 96, .tmp 98]) rfl ?_); (try (refine gate_guard (by rfl) ?_; dsimp only)); at_builtin; refine Kd.S_append k40 (w0 := w) w.heap.size rfl (.tmp 96) (.tmp 98) 22 40 (.agg #[(.int .i64 0), (.int .i64 0), (.int .i64 0), (.slice none 0 0)]) 48 rfl Try.underlying22 info40 rfl (by decide) (by omega) u398000 x398000_3 (⟨t426, t429, t432, x436003_4⟩ : S40) [.int .i64 t426, .int .i64 t429, .int .i64 t432, .slice Ao66 x436003_4.length co66] (fun k_ => k_ ≠ gb435) (fun k_ => some k_ = (.slice Ao66 x436003_4.length co66 : Value).ownBlock) rfl rfl ?aP (fun k_ hk_ => ((Kd.R_mono (ok' := fun k_ => ((fun k_ => k_ ≠ gb435)) k_ ∧ some k_ ≠ (u398000 : Value).ownBlock) (Kd.R_types (Kd.R_apart' (HO_436003.out) (Kd.S_typed HO_398000.out) (by decide)) BK435.out (by decide)) (fun k_ hk => ⟨hk.2, hk.1.2⟩))).1 k_ hk_.symm) ?aF ?aO ?aB ?aS ?aL ?_; (case aP => exact k40_mkM _ _ _ (⟨t426, t429, t432, x436003_4⟩ : S40) (Kd.R_mono (Kd.R_tight rfl (Kd.R_mono (ok' := fun k_ => ((fun k_ => k_ ≠ gb435)) k_ ∧ some k_ ≠ (u398000 : Value).ownBlock) (Kd.R_types (Kd.R_apart' (HO_436003.out) (Kd.S_typed HO_398000.out) (by decide)) BK435.out (by decide)) (fun k_ hk => ⟨hk.2, hk.1.2⟩))) (fun _ h_ => h_))); (case aB => exact (by repeat (first | (with_reducible first | exact HB.out | apply bA | apply bN | apply bD | refine bS ?_ (IsN.ge HI393.out) | refine bS ?_ GE392.out | refine bS ?_ GE397.out | refine bS ?_ GE435.out) | exact HB.out))); (case aF => exact (fun k_ hk => Kd.freshB (g := gb435) (o := .cells #[.int .i64 t426, .int .i64 t429, .int .i64 t432, .slice Ao66 x436003_4.length co66] 40 (0, 0)) (by (with_reducible repeat (first | refine kN ?_ _ | refine kD ?_ | refine kA ?_ _)); exact BK435.out) k_ hk)); (case aO => exact (by (with_reducible repeat (first | apply Kd.S_alloc | apply Kd.S_drewN | apply Kd.S_drew)); exact Kd.S_mono HO_398000.out (fun k_ hk => ⟨hk.2, fun e_ => hk.1 e_⟩))); (case aS => exact (bZ (by repeat (first | (with_reducible first | exact HB.out | apply bA | apply bN | apply bD | refine bS ?_ (IsN.ge HI393.out) | refine bS ?_ GE392.out | refine bS ?_ GE397.out | refine bS ?_ GE435.out) | exact HB.out)))); (case aL => have := LMc56.out; omega); intro v443 w65 ho hb hg hat; rw [← Ny442.out] at ho; have n0_ := Aside0.mk (Kd.R_over' (by (with_reducible repeat (first | apply Kd.R_alloc | apply Kd.R_drewN | apply Kd.R_drew)); exact HO_398001.out) (Kd.S_typed (by (with_reducible repeat (first | apply Kd.S_alloc | apply Kd.S_drewN | apply Kd.S_drew)); exact HO_398000.out)) (by decide) hg); have n1_ := Aside0.mk (Kd.R_over' (by (with_reducible repeat (first | apply Kd.R_alloc | apply Kd.R_drewN | apply Kd.R_drew)); exact HO_398002.out) (Kd.S_typed (by (with_reducible repeat (first | apply Kd.S_alloc | apply Kd.S_drewN | apply Kd.S_drew)); exact HO_398000.out)) (by decide) hg); have n2_ := Aside0.mk (blk_grown (g := gb392) (o := .cells #[.slice none 0 0, .slice none 0 0, .slice none 0 0, .int .i64 0] 26 (0, 0)) (by (with_reducible repeat (first | refine kN ?_ _ | refine kD ?_ | refine kA ?_ _)); exact BK392.out) hg (Kd.S_ne HO_398000.out BK392.out (by decide))); have n3_ := Aside0.mk (blk_grown (g := gb397) (o := .cells #[u398000, u398001, u398002, .int .i64 t394] 26 (0, 0)) (by (with_reducible repeat (first | refine kN ?_ _ | refine kD ?_ | refine kA ?_ _)); exact BK397.out) hg (Kd.S_ne HO_398000.out BK397.out (by decide))); have n4_ := Aside0.mk (blk_grown (g := gb435) (o := .cells #[.int .i64 t426, .int .i64 t429, .int .i64 t432, .slice Ao66 x436003_4.length co66] 40 (0, 0)) (by (with_reducible repeat (first | refine kN ?_ _ | refine kD ?_ | refine kA ?_ _)); exact BK435.out) hg (Kd.S_away HO_398000.out (fun _ hk => hk.2))); have n5_ := Aside0.mk (IsN.grown (by repeat (first | (with_reducible first | exact HI393.out | apply IsN.alloc | apply IsN.drewN | apply IsN.drew | apply IsN.set_1 | apply IsN.set_2 | refine IsN.far ?_ NB393_392.out _ | refine IsN.far ?_ NB393_397.out _ | refine IsN.far ?_ NB393_435.out _) | exact HI393.out)) hg (IsN.own_neS HI393.out HO_398000.out (by decide))); have n6_ := Aside0.mk (hb); have n7_ := Aside0.mk (ho); clear HO_398001; clear HO_398002; clear BK392; clear BK397; clear BK435; clear HI393; clear HB; clear HO_398000; clear HO_436003; have HO_398001 := n0_; have HO_398002 := n1_; have BK392 := n2_; have BK397 := n3_; have BK435 := n4_; have HI393 := n5_; have HB := n6_; have HO444 := n7_; clear n0_ n1_ n2_ n3_ n4_ n5_ n6_ n7_; clear ho hb hg hat; obtain ⟨Ao67, co67, eo67⟩ := Kd.S_slice HO444.out; subst eo67; have hcz68_0 : w65.cell? ⟨gb397, 0, none⟩ = some (u398000) := (kC BK397.out 0).trans rfl; have hcz68_1 : w65.cell? ⟨gb397, 1, none⟩ = some (u398001) := (kC BK397.out 1).trans rfl; have hcz68_2 : w65.cell? ⟨gb397, 2, none⟩ = some (u398002) := (kC BK397.out 2).trans rfl; have hcz68_3 : w65.cell? ⟨gb397, 3, none⟩ = some (.int .i64 t394) := (kC BK397.out 3).trans rfl; have hfz68_0 := kF BK397.out 0; have hfz68_1 := kF BK397.out 1; have hfz68_2 := kF BK397.out 2; have hfz68_3 := kF BK397.out 3))
             go_roundg k4
             case measure => have := HK1.out; have := HK2.out; have := HK3.out; have := HK4.out; omega
             case rel => exact ⟨(wrap64 (x68_3 + 1)), (y442), (.slice Ao67 y442.length co67), _, _, (by first | rfl | (simp; done) | (simp [*]; done)), H', ⟨by have := HK1.out; have := HK2.out; have := HK3.out; have := HK4.out; omega⟩, ⟨by (with_reducible repeat (first | apply Kd.S_alloc | apply Kd.S_drewN | apply Kd.S_drew)); exact Kd.S_mono (Kd.S_far (p := ⟨gb397, 0, none⟩) (Kd.S_types HO444.out BK397.out (by decide)) (fun _ hk => hk.2) (.slice Ao67 y442.length co67)) (fun _ hk => trivial)⟩, ⟨by (with_reducible repeat (first | apply Kd.R_alloc | apply Kd.R_drewN | apply Kd.R_drew)); exact Kd.R_mono (Kd.R_far (p := ⟨gb397, 0, none⟩) (Kd.R_types HO_398001.out BK397.out (by decide)) (fun _ hk => hk.2) (.slice Ao67 y442.length co67)) (fun _ hk => trivial)⟩, ⟨by (with_reducible repeat (first | apply Kd.R_alloc | apply Kd.R_drewN | apply Kd.R_drew)); exact Kd.R_mono (Kd.R_far (p := ⟨gb397, 0, none⟩) (Kd.R_types HO_398002.out BK397.out (by decide)) (fun _ hk => hk.2) (.slice Ao67 y442.length co67)) (fun _ hk => trivial)⟩, ⟨by (with_reducible repeat (first | refine kN ?_ _ | refine kD ?_ | refine kA ?_ _)); refine blk_far ?_ NB392_397.out _; (with_reducible repeat (first | refine kN ?_ _ | refine kD ?_ | refine kA ?_ _)); exact BK392.out⟩, ⟨by (with_reducible repeat (first | refine kN ?_ _ | refine kD ?_ | refine kA ?_ _)); refine kP (cs := #[u398000, u398001, u398002, .int .i64 t394]) ?_ 0 _ rfl; (with_reducible repeat (first | refine kN ?_ _ | refine kD ?_ | refine kA ?_ _)); exact BK397.out⟩, ⟨by repeat (first | (with_reducible first | exact HI393.out | apply IsN.alloc | apply IsN.drewN | apply IsN.drew | apply IsN.set_1 | apply IsN.set_2 | refine IsN.far ?_ NB393_392.out _ | refine IsN.far ?_ NB393_397.out _ | refine IsN.far ?_ NB393_435.out _) | exact HI393.out)⟩, ⟨by repeat (first | (with_reducible first | exact HB.out | apply bA | apply bN | apply bD | refine bS ?_ (IsN.ge HI393.out) | refine bS ?_ GE392.out | refine bS ?_ GE397.out | refine bS ?_ GE435.out) | exact HB.out)⟩⟩
            rw [if_neg c56] at H
            exact absurd H (by simp)
           replace c55 := Bool.eq_false_iff.mpr c55
           subst c55
           have H1 : ((cD1.f 1 l0 t437 false).bind fun bt445 => ((cD1.f 2 l0 bt445.2.1 bt445.2.2).bind fun bt448 => ((cD1.f 2 l0 bt448.2.1 bt448.2.2).bind fun bt451 => (if x436003_4.length < 5864062014805 then (cD.l4 k4 t422 x68_3 t436 (wrap64 (x79_4 + 1)) l0 bt451.2.1 bt451.2.2 x398000_3 x398001_1 x398002_2 t394 t426 t429 t432 (x436003_4 ++ [(⟨bt445.1, bt448.1, bt451.1⟩ : S42)])) else (none))))) = some (r1, r2, r3, r4, r5) := by rw [if_neg (show ¬ (false = true) by decide)] at H; exact H
           clear H
           have H := H1
           clear H1
           replace H := Option.bind_eq_some_iff.mp H
           obtain ⟨⟨t445, t446, t447⟩, A690, H⟩ := H
           replace H : ((cD1.f 2 l0 t446 t447).bind fun bt448 => ((cD1.f 2 l0 bt448.2.1 bt448.2.2).bind fun bt451 => (if x436003_4.length < 5864062014805 then (cD.l4 k4 t422 x68_3 t436 (wrap64 (x79_4 + 1)) l0 bt451.2.1 bt451.2.2 x398000_3 x398001_1 x398002_2 t394 t426 t429 t432 (x436003_4 ++ [(⟨t445, bt448.1, bt451.1⟩ : S42)])) else (none)))) = some (r1, r2, r3, r4, r5) := H
           have A69 := Aside0.mk A690
           clear A690
           replace H := Option.bind_eq_some_iff.mp H
           obtain ⟨⟨t448, t449, t450⟩, A700, H⟩ := H
           replace H : ((cD1.f 2 l0 t449 t450).bind fun bt451 => (if x436003_4.length < 5864062014805 then (cD.l4 k4 t422 x68_3 t436 (wrap64 (x79_4 + 1)) l0 bt451.2.1 bt451.2.2 x398000_3 x398001_1 x398002_2 t394 t426 t429 t432 (x436003_4 ++ [(⟨t445, t448, bt451.1⟩ : S42)])) else (none))) = some (r1, r2, r3, r4, r5) := H
           have A70 := Aside0.mk A700
           clear A700
           replace H := Option.bind_eq_some_iff.mp H
           obtain ⟨⟨t451, t452, t453⟩, A710, H⟩ := H
           replace H : (if x436003_4.length < 5864062014805 then (cD.l4 k4 t422 x68_3 t436 (wrap64 (x79_4 + 1)) l0 t452 t453 x398000_3 x398001_1 x398002_2 t394 t426 t429 t432 (x436003_4 ++ [(⟨t445, t448, t451⟩ : S42)])) else (none)) = some (r1, r2, r3, r4, r5) := H
           have A71 := Aside0.mk A710
           clear A710
           by_cases c72 : x436003_4.length < 5864062014805
           ·rw [if_pos c72] at H
            have LMc72 := Aside0.mk c72
            clear c72
            obtain ⟨y454, hy454⟩ : ∃ y_ : List (S42), y_ = (x436003_4 ++ [(⟨t445, t448, t451⟩ : S42)]) := ⟨_, rfl⟩
            replace H : (cD.l4 k4 t422 x68_3 t436 (wrap64 (x79_4 + 1)) l0 t452 t453 x398000_3 x398001_1 x398002_2 t394 t426 t429 t432 y454) = some (r1, r2, r3, r4, r5) := by first | (rw [hy454]; with_reducible exact H) | (have H2_ := (Option.bind_some _ _).symm.trans H; rw [hy454]; with_reducible exact H2_) | (have H2_ := (Option.bind_some _ _).symm.trans H; with_reducible exact H2_) | with_reducible exact H | (rw [hy454]; exact H) | exact H
            have Ny454 := Aside0.mk hy454
            clear hy454
            have H' := Aside0.mk H
            clear H
            obtain ⟨ASz73_0, cSz73_0, HGz73, hgz73, HSz73_0⟩ := HI393.out
            have hcz73_0 := cellN_0 HGz73
            have hcz73_1 := cellN_1 HGz73
            have hcz73_2 := cellN_2 HGz73
            have hfz73_1 := frozN_1 HGz73
            have hfz73_2 := frozN_2 HGz73
            clear HGz73 hgz73
            try go_wp2
            have n0_ := Aside0.mk (Kd.S_drew HO_398000.out)
            have n1_ := Aside0.mk (Kd.R_drew HO_398001.out)
            have n2_ := Aside0.mk (Kd.R_drew HO_398002.out)
            have n3_ := Aside0.mk (Kd.R_drew HO_436003.out)
            have n4_ := Aside0.mk (kD BK392.out)
            have n5_ := Aside0.mk (kD BK397.out)
            have n6_ := Aside0.mk (kD BK435.out)
            have n7_ := Aside0.mk (IsN.drew HI393.out)
            have n8_ := Aside0.mk (bD HB.out)
            clear HO_398000
            clear HO_398001
            clear HO_398002
            clear HO_436003
            clear BK392
            clear BK397
            clear BK435
            clear HI393
            clear HB
            have HO_398000 := n0_
            have HO_398001 := n1_
            have HO_398002 := n2_
            have HO_436003 := n3_
            have BK392 := n4_
            have BK397 := n5_
            have BK435 := n6_
            have HI393 := n7_
            have HB := n8_
            clear n0_ n1_ n2_ n3_ n4_ n5_ n6_ n7_ n8_
            refine start_ (n := 13) (S := fun w' => w'.cell? ⟨gb435, 0, none⟩ = some (.int .i64 t426) ∧ w'.cell? ⟨gb435, 1, none⟩ = some (.int .i64 t429) ∧ w'.cell? ⟨gb435, 2, none⟩ = some (.int .i64 t432) ∧ w'.cell? ⟨gb435, 3, none⟩ = some (u436003)) (ds := [12]) #[false, false, false, false, false, false, false, false, false, false, false, false, false] (by kernel_rfl) rfl rfl ⟨(kC BK435.out 0).trans rfl, (kC BK435.out 1).trans rfl, (kC BK435.out 2).trans rfl, (kC BK435.out 3).trans rfl⟩ (fun hHeld => ?_); refine with_tabW cD.tab24 cD.bits24 (fun HT_ HW_ => ?_)
            generalize wr.drew = w74 at HO_398000 HO_398001 HO_398002 HO_436003 BK392 BK397 BK435 HI393 HB hHeld ⊢
            refine pure_ (i := 0) (N := some 82) (v := ?_) (a' := ?_) #[true, false, false, false, false, false, false, false, false, false, false, false, false] rfl rfl (any_of HT_.out (by kernel_rfl)) (fun _ _ _ h => h) (Or.inl ⟨by rfl, ?_⟩) ?_ ?_
            rotate_left
            ·intro w'
             go_simp
             with_reducible rfl
            rotate_left
            ·simp only [Act.put, List.setIfInBounds_toArray, List.set_cons_zero, List.set_cons_succ, i64_w, i32_w]
             rfl
            refine pure_ (i := 2) (N := some 84) (v := ?_) (a' := ?_) #[true, false, true, false, false, false, false, false, false, false, false, false, false] rfl rfl (any_of HT_.out (by kernel_rfl)) (fun _ _ _ h => h) (Or.inl ⟨by rfl, ?_⟩) ?_ ?_
            rotate_left
            ·intro w'
             go_simp
             with_reducible rfl
            rotate_left
            ·simp only [Act.put, List.setIfInBounds_toArray, List.set_cons_zero, List.set_cons_succ, i64_w, i32_w]
             rfl
            refine pure_ (i := 4) (N := some 86) (v := ?_) (a' := ?_) #[true, false, true, false, true, false, false, false, false, false, false, false, false] rfl rfl (any_of HT_.out (by kernel_rfl)) (fun _ _ _ h => h) (Or.inl ⟨by rfl, ?_⟩) ?_ ?_
            rotate_left
            ·intro w'
             go_simp
             with_reducible rfl
            rotate_left
            ·simp only [Act.put, List.setIfInBounds_toArray, List.set_cons_zero, List.set_cons_succ, i64_w, i32_w]
             rfl
            refine pure_ (i := 6) (N := some 88) (v := ?_) (a' := ?_) #[true, false, true, false, true, false, true, false, false, false, false, false, false] rfl rfl (any_of HT_.out (by kernel_rfl)) (fun _ _ _ h => h) (Or.inl ⟨by rfl, ?_⟩) ?_ ?_
            rotate_left
            ·intro w'
             go_simp
             with_reducible rfl
            rotate_left
            ·simp only [Act.put, List.setIfInBounds_toArray, List.set_cons_zero, List.set_cons_succ, i64_w, i32_w]
             rfl
            refine take_ (i := 1) (N := some 83) (v := ?_) (a' := ?_) #[true, true, true, false, true, false, true, false, false, false, false, false, false] rfl rfl (take_ofW HT_.out HW_.out (by kernel_rfl)) (fun _ _ _ h => h) (Or.inl ⟨by rfl, ?_⟩) hHeld ?_ ?_
            rotate_left
            ·rintro w' ⟨s0, s1, s2, s3⟩
             go_simp
             with_reducible rfl
            rotate_left
            ·simp only [Act.put, List.setIfInBounds_toArray, List.set_cons_zero, List.set_cons_succ, i64_w, i32_w]
             rfl
            refine one_ (i := 3) (N := some 85) #[true, true, true, true, true, false, true, false, false, false, false, false, false] rfl rfl (one_of HT_.out (by kernel_rfl)) (by decide) (fun K hK => ?_)
            refine goesC_ (caps := #[.pointer (some ⟨gb393 + 1, 0, none⟩), .pointer (some ⟨gb393, 0, none⟩)]) Try.func33 (by kernel_rfl) rfl #[.int .i64 1, .pointer (some ⟨gb393 + 1, 0, none⟩), .pointer (some ⟨gb393, 0, none⟩)] (by rfl) rfl rfl (by first | rfl | (simp [Act.eval]; done)) (by first | rfl | (simp [Act.eval]; done)) ?_
            with_reducible refine (cD1.calls 1 gb393 l0 t437 false t445 t446 t447 w _ ?side1 ?side2 A69.out).mono ?_
            (case side1 => repeat (first | (with_reducible first | exact HI393.out | apply IsN.alloc | apply IsN.drewN | apply IsN.drew | apply IsN.set_1 | apply IsN.set_2 | refine IsN.far ?_ NB393_392.out _ | refine IsN.far ?_ NB393_397.out _ | refine IsN.far ?_ NB393_435.out _) | exact HI393.out))
            (case side2 => repeat (first | (with_reducible first | exact HB.out | apply bA | apply bN | apply bD | refine bS ?_ (IsN.ge HI393.out) | refine bS ?_ GE392.out | refine bS ?_ GE397.out | refine bS ?_ GE435.out) | exact HB.out))
            rintro e w75 ⟨rfl, hi, hb, hk⟩
            refine ⟨_, rfl, ?_⟩
            have n0_ := Aside0.mk (Kd.S_mono (S_keepN (IsN.apartS (show IsN w _ gb393 l0 t437 false from by repeat (first | (with_reducible first | exact HI393.out | apply IsN.alloc | apply IsN.drewN | apply IsN.drew | apply IsN.set_1 | apply IsN.set_2 | refine IsN.far ?_ NB393_392.out _ | refine IsN.far ?_ NB393_397.out _ | refine IsN.far ?_ NB393_435.out _) | exact HI393.out)) (by (with_reducible repeat (first | apply Kd.S_alloc | apply Kd.S_drewN | apply Kd.S_drew)); exact HO_398000.out) (by decide)) hk (by decide)) (fun _ h => h.1))
            have n1_ := Aside0.mk (Kd.R_mono (R_keepN (IsN.apart (show IsN w _ gb393 l0 t437 false from by repeat (first | (with_reducible first | exact HI393.out | apply IsN.alloc | apply IsN.drewN | apply IsN.drew | apply IsN.set_1 | apply IsN.set_2 | refine IsN.far ?_ NB393_392.out _ | refine IsN.far ?_ NB393_397.out _ | refine IsN.far ?_ NB393_435.out _) | exact HI393.out)) (by (with_reducible repeat (first | apply Kd.R_alloc | apply Kd.R_drewN | apply Kd.R_drew)); exact HO_398001.out) (by decide)) hk (by decide)) (fun _ h => h.1))
            have n2_ := Aside0.mk (Kd.R_mono (R_keepN (IsN.apart (show IsN w _ gb393 l0 t437 false from by repeat (first | (with_reducible first | exact HI393.out | apply IsN.alloc | apply IsN.drewN | apply IsN.drew | apply IsN.set_1 | apply IsN.set_2 | refine IsN.far ?_ NB393_392.out _ | refine IsN.far ?_ NB393_397.out _ | refine IsN.far ?_ NB393_435.out _) | exact HI393.out)) (by (with_reducible repeat (first | apply Kd.R_alloc | apply Kd.R_drewN | apply Kd.R_drew)); exact HO_398002.out) (by decide)) hk (by decide)) (fun _ h => h.1))
            have n3_ := Aside0.mk (Kd.R_mono (R_keepN (IsN.apart (show IsN w _ gb393 l0 t437 false from by repeat (first | (with_reducible first | exact HI393.out | apply IsN.alloc | apply IsN.drewN | apply IsN.drew | apply IsN.set_1 | apply IsN.set_2 | refine IsN.far ?_ NB393_392.out _ | refine IsN.far ?_ NB393_397.out _ | refine IsN.far ?_ NB393_435.out _) | exact HI393.out)) (by (with_reducible repeat (first | apply Kd.R_alloc | apply Kd.R_drewN | apply Kd.R_drew)); exact HO_436003.out) (by decide)) hk (by decide)) (fun _ h => h.1))
            have n4_ := Aside0.mk (KB_blk hk (g' := gb392) (o := .cells #[.slice none 0 0, .slice none 0 0, .slice none 0 0, .int .i64 0] 26 (0, 0)) (by (with_reducible repeat (first | refine kN ?_ _ | refine kD ?_ | refine kA ?_ _)); exact BK392.out) (by exact ⟨by decide, by decide⟩))
            have n5_ := Aside0.mk (KB_blk hk (g' := gb397) (o := .cells #[u398000, u398001, u398002, .int .i64 t394] 26 (0, 0)) (by (with_reducible repeat (first | refine kN ?_ _ | refine kD ?_ | refine kA ?_ _)); exact BK397.out) (by exact ⟨by decide, by decide⟩))
            have n6_ := Aside0.mk (KB_blk hk (g' := gb435) (o := .cells #[.int .i64 t426, .int .i64 t429, .int .i64 t432, u436003] 40 (0, 0)) (by (with_reducible repeat (first | refine kN ?_ _ | refine kD ?_ | refine kA ?_ _)); exact BK435.out) (by exact ⟨by decide, by decide⟩))
            have n7_ := Aside0.mk (hb)
            have n8_ := Aside0.mk (hi)
            clear HO_398000
            clear HO_398001
            clear HO_398002
            clear HO_436003
            clear BK392
            clear BK397
            clear BK435
            clear HB
            clear HI393
            have HO_398000 := n0_
            have HO_398001 := n1_
            have HO_398002 := n2_
            have HO_436003 := n3_
            have BK392 := n4_
            have BK397 := n5_
            have BK435 := n6_
            have HB := n7_
            have HI393 := n8_
            clear n0_ n1_ n2_ n3_ n4_ n5_ n6_ n7_ n8_
            (try clear hb)
            (try clear hb2)
            (try clear hk)
            (try clear hi)
            refine hK.out _ _ ⟨(kC BK435.out 0).trans rfl, (kC BK435.out 1).trans rfl, (kC BK435.out 2).trans rfl, (kC BK435.out 3).trans rfl⟩ (fun hHeld => ?_)
            clear hK K
            refine norm_ (a' := ?_) ?_ ?_
            rotate_left
            ·show Act.put _ (some 85) _ = _
             simp only [Act.put, List.setIfInBounds_toArray, List.set_cons_zero, List.set_cons_succ, i64_w, i32_w]
             rfl
            refine one_ (i := 5) (N := some 87) #[true, true, true, true, true, true, true, false, false, false, false, false, false] rfl rfl (one_of HT_.out (by kernel_rfl)) (by decide) (fun K hK => ?_)
            refine goesC_ (caps := #[.pointer (some ⟨gb393 + 1, 0, none⟩), .pointer (some ⟨gb393, 0, none⟩)]) Try.func33 (by kernel_rfl) rfl #[.int .i64 2, .pointer (some ⟨gb393 + 1, 0, none⟩), .pointer (some ⟨gb393, 0, none⟩)] (by rfl) rfl rfl (by first | rfl | (simp [Act.eval]; done)) (by first | rfl | (simp [Act.eval]; done)) ?_
            with_reducible refine (cD1.calls 2 gb393 l0 t446 t447 t448 t449 t450 w _ ?side1 ?side2 A70.out).mono ?_
            (case side1 => repeat (first | (with_reducible first | exact HI393.out | apply IsN.alloc | apply IsN.drewN | apply IsN.drew | apply IsN.set_1 | apply IsN.set_2 | refine IsN.far ?_ NB393_392.out _ | refine IsN.far ?_ NB393_397.out _ | refine IsN.far ?_ NB393_435.out _) | exact HI393.out))
            (case side2 => repeat (first | (with_reducible first | exact HB.out | apply bA | apply bN | apply bD | refine bS ?_ (IsN.ge HI393.out) | refine bS ?_ GE392.out | refine bS ?_ GE397.out | refine bS ?_ GE435.out) | exact HB.out))
            rintro e w76 ⟨rfl, hi, hb, hk⟩
            refine ⟨_, rfl, ?_⟩
            have n0_ := Aside0.mk (Kd.S_mono (S_keepN (IsN.apartS (show IsN w _ gb393 l0 t446 t447 from by repeat (first | (with_reducible first | exact HI393.out | apply IsN.alloc | apply IsN.drewN | apply IsN.drew | apply IsN.set_1 | apply IsN.set_2 | refine IsN.far ?_ NB393_392.out _ | refine IsN.far ?_ NB393_397.out _ | refine IsN.far ?_ NB393_435.out _) | exact HI393.out)) (by (with_reducible repeat (first | apply Kd.S_alloc | apply Kd.S_drewN | apply Kd.S_drew)); exact HO_398000.out) (by decide)) hk (by decide)) (fun _ h => h.1))
            have n1_ := Aside0.mk (Kd.R_mono (R_keepN (IsN.apart (show IsN w _ gb393 l0 t446 t447 from by repeat (first | (with_reducible first | exact HI393.out | apply IsN.alloc | apply IsN.drewN | apply IsN.drew | apply IsN.set_1 | apply IsN.set_2 | refine IsN.far ?_ NB393_392.out _ | refine IsN.far ?_ NB393_397.out _ | refine IsN.far ?_ NB393_435.out _) | exact HI393.out)) (by (with_reducible repeat (first | apply Kd.R_alloc | apply Kd.R_drewN | apply Kd.R_drew)); exact HO_398001.out) (by decide)) hk (by decide)) (fun _ h => h.1))
            have n2_ := Aside0.mk (Kd.R_mono (R_keepN (IsN.apart (show IsN w _ gb393 l0 t446 t447 from by repeat (first | (with_reducible first | exact HI393.out | apply IsN.alloc | apply IsN.drewN | apply IsN.drew | apply IsN.set_1 | apply IsN.set_2 | refine IsN.far ?_ NB393_392.out _ | refine IsN.far ?_ NB393_397.out _ | refine IsN.far ?_ NB393_435.out _) | exact HI393.out)) (by (with_reducible repeat (first | apply Kd.R_alloc | apply Kd.R_drewN | apply Kd.R_drew)); exact HO_398002.out) (by decide)) hk (by decide)) (fun _ h => h.1))
            have n3_ := Aside0.mk (Kd.R_mono (R_keepN (IsN.apart (show IsN w _ gb393 l0 t446 t447 from by repeat (first | (with_reducible first | exact HI393.out | apply IsN.alloc | apply IsN.drewN | apply IsN.drew | apply IsN.set_1 | apply IsN.set_2 | refine IsN.far ?_ NB393_392.out _ | refine IsN.far ?_ NB393_397.out _ | refine IsN.far ?_ NB393_435.out _) | exact HI393.out)) (by (with_reducible repeat (first | apply Kd.R_alloc | apply Kd.R_drewN | apply Kd.R_drew)); exact HO_436003.out) (by decide)) hk (by decide)) (fun _ h => h.1))
            have n4_ := Aside0.mk (KB_blk hk (g' := gb392) (o := .cells #[.slice none 0 0, .slice none 0 0, .slice none 0 0, .int .i64 0] 26 (0, 0)) (by (with_reducible repeat (first | refine kN ?_ _ | refine kD ?_ | refine kA ?_ _)); exact BK392.out) (by exact ⟨by decide, by decide⟩))
            have n5_ := Aside0.mk (KB_blk hk (g' := gb397) (o := .cells #[u398000, u398001, u398002, .int .i64 t394] 26 (0, 0)) (by (with_reducible repeat (first | refine kN ?_ _ | refine kD ?_ | refine kA ?_ _)); exact BK397.out) (by exact ⟨by decide, by decide⟩))
            have n6_ := Aside0.mk (KB_blk hk (g' := gb435) (o := .cells #[.int .i64 t426, .int .i64 t429, .int .i64 t432, u436003] 40 (0, 0)) (by (with_reducible repeat (first | refine kN ?_ _ | refine kD ?_ | refine kA ?_ _)); exact BK435.out) (by exact ⟨by decide, by decide⟩))
            have n7_ := Aside0.mk (hb)
            have n8_ := Aside0.mk (hi)
            clear HO_398000
            clear HO_398001
            clear HO_398002
            clear HO_436003
            clear BK392
            clear BK397
            clear BK435
            clear HB
            clear HI393
            have HO_398000 := n0_
            have HO_398001 := n1_
            have HO_398002 := n2_
            have HO_436003 := n3_
            have BK392 := n4_
            have BK397 := n5_
            have BK435 := n6_
            have HB := n7_
            have HI393 := n8_
            clear n0_ n1_ n2_ n3_ n4_ n5_ n6_ n7_ n8_
            (try clear hb)
            (try clear hb2)
            (try clear hk)
            (try clear hi)
            refine hK.out _ _ ⟨(kC BK435.out 0).trans rfl, (kC BK435.out 1).trans rfl, (kC BK435.out 2).trans rfl, (kC BK435.out 3).trans rfl⟩ (fun hHeld => ?_)
            clear hK K
            refine norm_ (a' := ?_) ?_ ?_
            rotate_left
            ·show Act.put _ (some 87) _ = _
             simp only [Act.put, List.setIfInBounds_toArray, List.set_cons_zero, List.set_cons_succ, i64_w, i32_w]
             rfl
            refine one_ (i := 7) (N := some 89) #[true, true, true, true, true, true, true, true, false, false, false, false, false] rfl rfl (one_of HT_.out (by kernel_rfl)) (by decide) (fun K hK => ?_)
            refine goesC_ (caps := #[.pointer (some ⟨gb393 + 1, 0, none⟩), .pointer (some ⟨gb393, 0, none⟩)]) Try.func33 (by kernel_rfl) rfl #[.int .i64 2, .pointer (some ⟨gb393 + 1, 0, none⟩), .pointer (some ⟨gb393, 0, none⟩)] (by rfl) rfl rfl (by first | rfl | (simp [Act.eval]; done)) (by first | rfl | (simp [Act.eval]; done)) ?_
            with_reducible refine (cD1.calls 2 gb393 l0 t449 t450 t451 t452 t453 w _ ?side1 ?side2 A71.out).mono ?_
            (case side1 => repeat (first | (with_reducible first | exact HI393.out | apply IsN.alloc | apply IsN.drewN | apply IsN.drew | apply IsN.set_1 | apply IsN.set_2 | refine IsN.far ?_ NB393_392.out _ | refine IsN.far ?_ NB393_397.out _ | refine IsN.far ?_ NB393_435.out _) | exact HI393.out))
            (case side2 => repeat (first | (with_reducible first | exact HB.out | apply bA | apply bN | apply bD | refine bS ?_ (IsN.ge HI393.out) | refine bS ?_ GE392.out | refine bS ?_ GE397.out | refine bS ?_ GE435.out) | exact HB.out))
            rintro e w77 ⟨rfl, hi, hb, hk⟩
            refine ⟨_, rfl, ?_⟩
            have n0_ := Aside0.mk (Kd.S_mono (S_keepN (IsN.apartS (show IsN w _ gb393 l0 t449 t450 from by repeat (first | (with_reducible first | exact HI393.out | apply IsN.alloc | apply IsN.drewN | apply IsN.drew | apply IsN.set_1 | apply IsN.set_2 | refine IsN.far ?_ NB393_392.out _ | refine IsN.far ?_ NB393_397.out _ | refine IsN.far ?_ NB393_435.out _) | exact HI393.out)) (by (with_reducible repeat (first | apply Kd.S_alloc | apply Kd.S_drewN | apply Kd.S_drew)); exact HO_398000.out) (by decide)) hk (by decide)) (fun _ h => h.1))
            have n1_ := Aside0.mk (Kd.R_mono (R_keepN (IsN.apart (show IsN w _ gb393 l0 t449 t450 from by repeat (first | (with_reducible first | exact HI393.out | apply IsN.alloc | apply IsN.drewN | apply IsN.drew | apply IsN.set_1 | apply IsN.set_2 | refine IsN.far ?_ NB393_392.out _ | refine IsN.far ?_ NB393_397.out _ | refine IsN.far ?_ NB393_435.out _) | exact HI393.out)) (by (with_reducible repeat (first | apply Kd.R_alloc | apply Kd.R_drewN | apply Kd.R_drew)); exact HO_398001.out) (by decide)) hk (by decide)) (fun _ h => h.1))
            have n2_ := Aside0.mk (Kd.R_mono (R_keepN (IsN.apart (show IsN w _ gb393 l0 t449 t450 from by repeat (first | (with_reducible first | exact HI393.out | apply IsN.alloc | apply IsN.drewN | apply IsN.drew | apply IsN.set_1 | apply IsN.set_2 | refine IsN.far ?_ NB393_392.out _ | refine IsN.far ?_ NB393_397.out _ | refine IsN.far ?_ NB393_435.out _) | exact HI393.out)) (by (with_reducible repeat (first | apply Kd.R_alloc | apply Kd.R_drewN | apply Kd.R_drew)); exact HO_398002.out) (by decide)) hk (by decide)) (fun _ h => h.1))
            have n3_ := Aside0.mk (Kd.R_mono (R_keepN (IsN.apart (show IsN w _ gb393 l0 t449 t450 from by repeat (first | (with_reducible first | exact HI393.out | apply IsN.alloc | apply IsN.drewN | apply IsN.drew | apply IsN.set_1 | apply IsN.set_2 | refine IsN.far ?_ NB393_392.out _ | refine IsN.far ?_ NB393_397.out _ | refine IsN.far ?_ NB393_435.out _) | exact HI393.out)) (by (with_reducible repeat (first | apply Kd.R_alloc | apply Kd.R_drewN | apply Kd.R_drew)); exact HO_436003.out) (by decide)) hk (by decide)) (fun _ h => h.1))
            have n4_ := Aside0.mk (KB_blk hk (g' := gb392) (o := .cells #[.slice none 0 0, .slice none 0 0, .slice none 0 0, .int .i64 0] 26 (0, 0)) (by (with_reducible repeat (first | refine kN ?_ _ | refine kD ?_ | refine kA ?_ _)); exact BK392.out) (by exact ⟨by decide, by decide⟩))
            have n5_ := Aside0.mk (KB_blk hk (g' := gb397) (o := .cells #[u398000, u398001, u398002, .int .i64 t394] 26 (0, 0)) (by (with_reducible repeat (first | refine kN ?_ _ | refine kD ?_ | refine kA ?_ _)); exact BK397.out) (by exact ⟨by decide, by decide⟩))
            have n6_ := Aside0.mk (KB_blk hk (g' := gb435) (o := .cells #[.int .i64 t426, .int .i64 t429, .int .i64 t432, u436003] 40 (0, 0)) (by (with_reducible repeat (first | refine kN ?_ _ | refine kD ?_ | refine kA ?_ _)); exact BK435.out) (by exact ⟨by decide, by decide⟩))
            have n7_ := Aside0.mk (hb)
            have n8_ := Aside0.mk (hi)
            clear HO_398000
            clear HO_398001
            clear HO_398002
            clear HO_436003
            clear BK392
            clear BK397
            clear BK435
            clear HB
            clear HI393
            have HO_398000 := n0_
            have HO_398001 := n1_
            have HO_398002 := n2_
            have HO_436003 := n3_
            have BK392 := n4_
            have BK397 := n5_
            have BK435 := n6_
            have HB := n7_
            have HI393 := n8_
            clear n0_ n1_ n2_ n3_ n4_ n5_ n6_ n7_ n8_
            (try clear hb)
            (try clear hb2)
            (try clear hk)
            (try clear hi)
            refine hK.out _ _ ⟨(kC BK435.out 0).trans rfl, (kC BK435.out 1).trans rfl, (kC BK435.out 2).trans rfl, (kC BK435.out 3).trans rfl⟩ (fun hHeld => ?_)
            clear hK K
            refine norm_ (a' := ?_) ?_ ?_
            rotate_left
            ·show Act.put _ (some 89) _ = _
             simp only [Act.put, List.setIfInBounds_toArray, List.set_cons_zero, List.set_cons_succ, i64_w, i32_w]
             rfl
            refine pure_ (i := 8) (N := some 90) (v := ?_) (a' := ?_) #[true, true, true, true, true, true, true, true, true, false, false, false, false] rfl rfl (any_of HT_.out (by kernel_rfl)) (fun _ _ _ h => h) (Or.inl ⟨by rfl, ?_⟩) ?_ ?_
            rotate_left
            ·intro w'
             go_simp
             with_reducible rfl
            rotate_left
            ·simp only [Act.put, List.setIfInBounds_toArray, List.set_cons_zero, List.set_cons_succ, i64_w, i32_w]
             rfl
            refine one_ (i := 9) (N := some 91) #[true, true, true, true, true, true, true, true, true, true, false, false, false] rfl rfl (one_of HT_.out (by kernel_rfl)) (by decide) (fun K hK => ?_)
            refine value_ (w1 := ?_) (v := ?_) (by rfl) rfl ?_ ?_
            rotate_left 2
            ·go_simp
             constructor
             ·rfl
             rfl
            refine hK.out _ _ ⟨(kC (kA BK435.out _) 0).trans rfl, (kC (kA BK435.out _) 1).trans rfl, (kC (kA BK435.out _) 2).trans rfl, (kC (kA BK435.out _) 3).trans rfl⟩ (fun hHeld => ?_)
            clear hK K
            refine norm_ (a' := ?_) ?_ ?_
            rotate_left
            ·show Act.put _ (some 91) _ = _
             simp only [Act.put, List.setIfInBounds_toArray, List.set_cons_zero, List.set_cons_succ, i64_w, i32_w]
             rfl
            refine one_ (i := 10) (N := some 92) #[true, true, true, true, true, true, true, true, true, true, true, false, false] rfl rfl (one_of HT_.out (by kernel_rfl)) (by decide) (fun K hK => ?_)
            refine Kd.R_append_step k42 (w0 := w) w.heap.size (by rfl) (.tmp 83) (.tmp 91) 38 42 (.agg #[(.int .i64 0), (.int .i64 0), (.int .i64 0)]) 24 rfl Try.underlying38 info42 rfl (by decide) (by omega) u436003 x436003_4 (⟨t445, t448, t451⟩ : S42) [.int .i64 t445, .int .i64 t448, .int .i64 t451] (fun _ => True) (fun _ => False) rfl rfl ?aP (fun _ hk => hk.elim) ?aF ?aO ?aB ?aS ?aL ?_
            (case aP => exact k42_mkM _ _ _ (⟨t445, t448, t451⟩ : S42))
            (case aB => exact (by repeat (first | (with_reducible first | exact HB.out | apply bA | apply bN | apply bD | refine bS ?_ (IsN.ge HI393.out) | refine bS ?_ GE392.out | refine bS ?_ GE397.out | refine bS ?_ GE435.out) | exact HB.out)))
            (case aF => exact (fun _ _ => trivial))
            (case aO => exact (by (with_reducible repeat (first | apply Kd.R_alloc | apply Kd.R_drewN | apply Kd.R_drew)); exact HO_436003.out))
            (case aS => exact (bZ (by repeat (first | (with_reducible first | exact HB.out | apply bA | apply bN | apply bD | refine bS ?_ (IsN.ge HI393.out) | refine bS ?_ GE392.out | refine bS ?_ GE397.out | refine bS ?_ GE435.out) | exact HB.out))))
            (case aL => have := LMc72.out; omega)
            intro v455 w78 ho hb hg hat
            rw [← Ny454.out] at ho
            have n0_ := Aside0.mk (Kd.S_after (ok := (fun k_ => k_ ≠ gb435)) (by (with_reducible repeat (first | apply Kd.S_alloc | apply Kd.S_drewN | apply Kd.S_drew)); exact Kd.S_mono HO_398000.out (fun _ hk => ⟨hk.2, hk.1⟩)) hg hat)
            have n1_ := Aside0.mk (Kd.R_over' (by (with_reducible repeat (first | apply Kd.R_alloc | apply Kd.R_drewN | apply Kd.R_drew)); exact HO_398001.out) (Kd.R_typed (by (with_reducible repeat (first | apply Kd.R_alloc | apply Kd.R_drewN | apply Kd.R_drew)); exact HO_436003.out)) (by decide) hg)
            have n2_ := Aside0.mk (Kd.R_over' (by (with_reducible repeat (first | apply Kd.R_alloc | apply Kd.R_drewN | apply Kd.R_drew)); exact HO_398002.out) (Kd.R_typed (by (with_reducible repeat (first | apply Kd.R_alloc | apply Kd.R_drewN | apply Kd.R_drew)); exact HO_436003.out)) (by decide) hg)
            have n3_ := Aside0.mk (blk_grown (g := gb392) (o := .cells #[.slice none 0 0, .slice none 0 0, .slice none 0 0, .int .i64 0] 26 (0, 0)) (by (with_reducible repeat (first | refine kN ?_ _ | refine kD ?_ | refine kA ?_ _)); exact BK392.out) hg (Kd.R_ne HO_436003.out BK392.out (by decide)))
            have n4_ := Aside0.mk (blk_grown (g := gb397) (o := .cells #[u398000, u398001, u398002, .int .i64 t394] 26 (0, 0)) (by (with_reducible repeat (first | refine kN ?_ _ | refine kD ?_ | refine kA ?_ _)); exact BK397.out) hg (Kd.R_ne HO_436003.out BK397.out (by decide)))
            have n5_ := Aside0.mk (blk_grown (g := gb435) (o := .cells #[.int .i64 t426, .int .i64 t429, .int .i64 t432, u436003] 40 (0, 0)) (by (with_reducible repeat (first | refine kN ?_ _ | refine kD ?_ | refine kA ?_ _)); exact BK435.out) hg (Kd.R_ne HO_436003.out BK435.out (by decide)))
            have n6_ := Aside0.mk (IsN.grown (by repeat (first | (with_reducible first | exact HI393.out | apply IsN.alloc | apply IsN.drewN | apply IsN.drew | apply IsN.set_1 | apply IsN.set_2 | refine IsN.far ?_ NB393_392.out _ | refine IsN.far ?_ NB393_397.out _ | refine IsN.far ?_ NB393_435.out _) | exact HI393.out)) hg (IsN.own_ne HI393.out HO_436003.out (by decide)))
            have n7_ := Aside0.mk (hb)
            have n8_ := Aside0.mk (ho)
            clear HO_398000
            clear HO_398001
            clear HO_398002
            clear BK392
            clear BK397
            clear BK435
            clear HI393
            clear HB
            clear HO_436003
            have HO_398000 := n0_
            have HO_398001 := n1_
            have HO_398002 := n2_
            have BK392 := n3_
            have BK397 := n4_
            have BK435 := n5_
            have HI393 := n6_
            have HB := n7_
            have HO456 := n8_
            clear n0_ n1_ n2_ n3_ n4_ n5_ n6_ n7_ n8_
            clear ho hb hg hat
            obtain ⟨Ao79, co79, eo79⟩ := Kd.R_slice HO456.out
            (first | subst eo79 | (injection eo79 with f1_ f2_ f3_; have f4_ := f1_.symm; have f5_ := f3_.symm; clear f1_ f2_ f3_; subst f4_; subst f5_))
            refine hK.out _ _ ⟨(kC BK435.out 0).trans rfl, (kC BK435.out 1).trans rfl, (kC BK435.out 2).trans rfl, (kC BK435.out 3).trans rfl⟩ (fun hHeld => ?_)
            clear hK K
            refine norm_ (a' := ?_) ?_ ?_
            rotate_left
            ·show Act.put _ (some 92) _ = _
             simp only [Act.put, List.setIfInBounds_toArray, List.set_cons_zero, List.set_cons_succ, i64_w, i32_w]
             rfl
            refine pure_ (i := 11) (N := some 93) (v := ?_) (a' := ?_) #[true, true, true, true, true, true, true, true, true, true, true, true, false] rfl rfl (any_of HT_.out (by kernel_rfl)) (fun _ _ _ h => h) (Or.inl ⟨by rfl, ?_⟩) ?_ ?_
            rotate_left
            ·intro w'
             go_simp
             with_reducible rfl
            rotate_left
            ·simp only [Act.put, List.setIfInBounds_toArray, List.set_cons_zero, List.set_cons_succ, i64_w, i32_w]
             rfl
            refine last_ (i := 12) (N := none) #[true, true, true, true, true, true, true, true, true, true, true, true, true] rfl rfl (one_of HT_.out (by kernel_rfl)) (by decide) (fun K hK => ?_)
            have hs80 : w78.cell? ⟨gb435, 3, none⟩ = some (u436003) := (kC BK435.out 3).trans rfl
            have hfs80 := kF BK435.out 3
            have hns80_0 := NB392_435.out
            have hns80_1 := NB397_435.out
            have hms80_0 := NB435_392.out
            have hms80_1 := NB435_397.out
            refine skip_ (w1 := ?_) (by rfl) rfl ?_ ?_
            rotate_left
            ·go_simp
             rfl
            refine hK.out _ _ ?_
            clear hK K
            refine done_ (done_of HT_.out (by kernel_rfl)) ?_
            try go_wp2
            go_roundg k4
            case measure => have := HK1.out; have := HK2.out; have := HK3.out; have := HK4.out; omega
            case rel => exact ⟨(wrap64 (x79_4 + 1)), (y454), (.slice Ao79 y454.length co79), _, _, (by first | rfl | (simp; done) | (simp [*]; done)), H', ⟨by have := HK1.out; have := HK2.out; have := HK3.out; have := HK4.out; omega⟩, ⟨by (with_reducible repeat (first | apply Kd.S_alloc | apply Kd.S_drewN | apply Kd.S_drew)); exact Kd.S_mono (Kd.S_far (p := ⟨gb435, 3, none⟩) (Kd.S_mono HO_398000.out (fun k_ hk => (⟨hk, hk.1⟩ : _ ∧ k_ ≠ gb435))) (fun _ hk => hk.2) (.slice Ao79 y454.length co79)) (fun _ hk => ⟨hk.1.2, hk.1.1⟩)⟩, ⟨by (with_reducible repeat (first | apply Kd.R_alloc | apply Kd.R_drewN | apply Kd.R_drew)); exact Kd.R_mono (Kd.R_far (p := ⟨gb435, 3, none⟩) (Kd.R_types HO_398001.out BK435.out (by decide)) (fun _ hk => hk.2) (.slice Ao79 y454.length co79)) (fun _ hk => trivial)⟩, ⟨by (with_reducible repeat (first | apply Kd.R_alloc | apply Kd.R_drewN | apply Kd.R_drew)); exact Kd.R_mono (Kd.R_far (p := ⟨gb435, 3, none⟩) (Kd.R_types HO_398002.out BK435.out (by decide)) (fun _ hk => hk.2) (.slice Ao79 y454.length co79)) (fun _ hk => trivial)⟩, ⟨by (with_reducible repeat (first | apply Kd.R_alloc | apply Kd.R_drewN | apply Kd.R_drew)); exact Kd.R_mono (Kd.R_far (p := ⟨gb435, 3, none⟩) (Kd.R_types HO456.out BK435.out (by decide)) (fun _ hk => hk.2) (.slice Ao79 y454.length co79)) (fun _ hk => trivial)⟩, ⟨by (with_reducible repeat (first | refine kN ?_ _ | refine kD ?_ | refine kA ?_ _)); refine blk_far ?_ NB392_435.out _; (with_reducible repeat (first | refine kN ?_ _ | refine kD ?_ | refine kA ?_ _)); exact BK392.out⟩, ⟨by (with_reducible repeat (first | refine kN ?_ _ | refine kD ?_ | refine kA ?_ _)); refine blk_far ?_ NB397_435.out _; (with_reducible repeat (first | refine kN ?_ _ | refine kD ?_ | refine kA ?_ _)); exact BK397.out⟩, ⟨by (with_reducible repeat (first | refine kN ?_ _ | refine kD ?_ | refine kA ?_ _)); refine kP (cs := #[.int .i64 t426, .int .i64 t429, .int .i64 t432, u436003]) ?_ 3 _ rfl; (with_reducible repeat (first | refine kN ?_ _ | refine kD ?_ | refine kA ?_ _)); exact BK435.out⟩, ⟨by repeat (first | (with_reducible first | exact HI393.out | apply IsN.alloc | apply IsN.drewN | apply IsN.drew | apply IsN.set_1 | apply IsN.set_2 | refine IsN.far ?_ NB393_392.out _ | refine IsN.far ?_ NB393_397.out _ | refine IsN.far ?_ NB393_435.out _) | exact HI393.out)⟩, ⟨by repeat (first | (with_reducible first | exact HB.out | apply bA | apply bN | apply bD | refine bS ?_ (IsN.ge HI393.out) | refine bS ?_ GE392.out | refine bS ?_ GE397.out | refine bS ?_ GE435.out) | exact HB.out)⟩⟩
           rw [if_neg c72] at H
           exact absurd H (by simp)
          rw [if_neg c54] at H
          have c54b0 : decide (x79_4 < t436) = false := decide_eq_false c54
          clear c54
          by_cases c81 : x398000_3.length < 2932031007402
          ·rw [if_pos c81] at H
           have LMc81 := Aside0.mk c81
           clear c81
           obtain ⟨y439, hy439⟩ : ∃ y_ : List (S40), y_ = (x398000_3 ++ [(⟨t426, t429, t432, x436003_4⟩ : S40)]) := ⟨_, rfl⟩
           replace H : (cD.l3 k4 t422 (wrap64 (x68_3 + 1)) l0 t437 t438 y439 x398001_1 x398002_2 t394) = some (r1, r2, r3, r4, r5) := by first | (rw [hy439]; with_reducible exact H) | (have H2_ := (Option.bind_some _ _).symm.trans H; rw [hy439]; with_reducible exact H2_) | (have H2_ := (Option.bind_some _ _).symm.trans H; with_reducible exact H2_) | with_reducible exact H | (rw [hy439]; exact H) | exact H
           have Ny439 := Aside0.mk hy439
           clear hy439
           have H' := Aside0.mk H
           clear H
           have hnb82 := NB397_392.out
           have hnc82 := NB392_397.out
           have hnb83 := NB397_435.out
           have hnc83 := NB435_397.out
           have hnb84 := NB397_393.out
           have hnc84 := NB393_397.out
           have hcz85_0 : wr.cell? ⟨gb397, 0, none⟩ = some (u398000) := (kC BK397.out 0).trans rfl
           have hcz85_1 : wr.cell? ⟨gb397, 1, none⟩ = some (u398001) := (kC BK397.out 1).trans rfl
           have hcz85_2 : wr.cell? ⟨gb397, 2, none⟩ = some (u398002) := (kC BK397.out 2).trans rfl
           have hcz85_3 : wr.cell? ⟨gb397, 3, none⟩ = some (.int .i64 t394) := (kC BK397.out 3).trans rfl
           have hfz85_0 := kF BK397.out 0
           have hfz85_1 := kF BK397.out 1
           have hfz85_2 := kF BK397.out 2
           have hfz85_3 := kF BK397.out 3
           have hnb86 := NB435_392.out
           have hnc86 := NB392_435.out
           have hnb87 := NB435_393.out
           have hnc87 := NB393_435.out
           have hcz88_0 : wr.cell? ⟨gb435, 0, none⟩ = some (.int .i64 t426) := (kC BK435.out 0).trans rfl
           have hcz88_1 : wr.cell? ⟨gb435, 1, none⟩ = some (.int .i64 t429) := (kC BK435.out 1).trans rfl
           have hcz88_2 : wr.cell? ⟨gb435, 2, none⟩ = some (.int .i64 t432) := (kC BK435.out 2).trans rfl
           have hcz88_3 : wr.cell? ⟨gb435, 3, none⟩ = some (u436003) := (kC BK435.out 3).trans rfl
           have hfz88_0 := kF BK435.out 0
           have hfz88_1 := kF BK435.out 1
           have hfz88_2 := kF BK435.out 2
           have hfz88_3 := kF BK435.out 3
           obtain ⟨Ao90, co90, eo90⟩ := Kd.R_slice HO_436003.out
           subst eo90
           go_wp2_with (first | ((with_reducible refine gate_builtin (b := .append) (xs := #[.tmp 96, .tmp 98]) rfl ?_); (try (refine gate_guard (by rfl) ?_; dsimp only)); at_builtin; refine Kd.S_append k40 (w0 := w) w.heap.size rfl (.tmp 96) (.tmp 98) 22 40 (.agg #[(.int .i64 0), (.int .i64 0), (.int .i64 0), (.slice none 0 0)]) 48 rfl Try.underlying22 info40 rfl (by decide) (by omega) u398000 x398000_3 (⟨t426, t429, t432, x436003_4⟩ : S40) [.int .i64 t426, .int .i64 t429, .int .i64 t432, .slice Ao90 x436003_4.length co90] (fun k_ => k_ ≠ gb435) (fun k_ => some k_ = (.slice Ao90 x436003_4.length co90 : Value).ownBlock) rfl rfl ?aP (fun k_ hk_ => ((Kd.R_mono (ok' := fun k_ => ((fun k_ => k_ ≠ gb435)) k_ ∧ some k_ ≠ (u398000 : Value).ownBlock) (Kd.R_types (Kd.R_apart' (HO_436003.out) (Kd.S_typed HO_398000.out) (by decide)) BK435.out (by decide)) (fun k_ hk => ⟨hk.2, hk.1.2⟩))).1 k_ hk_.symm) ?aF ?aO ?aB ?aS ?aL ?_; (case aP => exact k40_mkM _ _ _ (⟨t426, t429, t432, x436003_4⟩ : S40) (Kd.R_mono (Kd.R_tight rfl (Kd.R_mono (ok' := fun k_ => ((fun k_ => k_ ≠ gb435)) k_ ∧ some k_ ≠ (u398000 : Value).ownBlock) (Kd.R_types (Kd.R_apart' (HO_436003.out) (Kd.S_typed HO_398000.out) (by decide)) BK435.out (by decide)) (fun k_ hk => ⟨hk.2, hk.1.2⟩))) (fun _ h_ => h_))); (case aB => exact (by repeat (first | (with_reducible first | exact HB.out | apply bA | apply bN | apply bD | refine bS ?_ (IsN.ge HI393.out) | refine bS ?_ GE392.out | refine bS ?_ GE397.out | refine bS ?_ GE435.out) | exact HB.out))); (case aF => exact (fun k_ hk => Kd.freshB (g := gb435) (o := .cells #[.int .i64 t426, .int .i64 t429, .int .i64 t432, .slice Ao90 x436003_4.length co90] 40 (0, 0)) (by (with_reducible repeat (first | refine kN ?_ _ | refine kD ?_ | refine kA ?_ _)); exact BK435.out) k_ hk)); (case aO => exact (by (with_reducible repeat (first | apply Kd.S_alloc | apply Kd.S_drewN | apply Kd.S_drew)); exact Kd.S_mono HO_398000.out (fun k_ hk => ⟨hk.2, fun e_ => hk.1 e_⟩))); (case aS => exact (bZ (by repeat (first | (with_reducible first | exact HB.out | apply bA | apply bN | apply bD | refine bS ?_ (IsN.ge HI393.out) | refine bS ?_ GE392.out | refine bS ?_ GE397.out | refine bS ?_ GE435.out) | exact HB.out)))); (case aL => have := LMc81.out; omega); intro v440 w89 ho hb hg hat; rw [← Ny439.out] at ho; have n0_ := Aside0.mk (Kd.R_over' (by (with_reducible repeat (first | apply Kd.R_alloc | apply Kd.R_drewN | apply Kd.R_drew)); exact HO_398001.out) (Kd.S_typed (by (with_reducible repeat (first | apply Kd.S_alloc | apply Kd.S_drewN | apply Kd.S_drew)); exact HO_398000.out)) (by decide) hg); have n1_ := Aside0.mk (Kd.R_over' (by (with_reducible repeat (first | apply Kd.R_alloc | apply Kd.R_drewN | apply Kd.R_drew)); exact HO_398002.out) (Kd.S_typed (by (with_reducible repeat (first | apply Kd.S_alloc | apply Kd.S_drewN | apply Kd.S_drew)); exact HO_398000.out)) (by decide) hg); have n2_ := Aside0.mk (blk_grown (g := gb392) (o := .cells #[.slice none 0 0, .slice none 0 0, .slice none 0 0, .int .i64 0] 26 (0, 0)) (by (with_reducible repeat (first | refine kN ?_ _ | refine kD ?_ | refine kA ?_ _)); exact BK392.out) hg (Kd.S_ne HO_398000.out BK392.out (by decide))); have n3_ := Aside0.mk (blk_grown (g := gb397) (o := .cells #[u398000, u398001, u398002, .int .i64 t394] 26 (0, 0)) (by (with_reducible repeat (first | refine kN ?_ _ | refine kD ?_ | refine kA ?_ _)); exact BK397.out) hg (Kd.S_ne HO_398000.out BK397.out (by decide))); have n4_ := Aside0.mk (blk_grown (g := gb435) (o := .cells #[.int .i64 t426, .int .i64 t429, .int .i64 t432, .slice Ao90 x436003_4.length co90] 40 (0, 0)) (by (with_reducible repeat (first | refine kN ?_ _ | refine kD ?_ | refine kA ?_ _)); exact BK435.out) hg (Kd.S_away HO_398000.out (fun _ hk => hk.2))); have n5_ := Aside0.mk (IsN.grown (by repeat (first | (with_reducible first | exact HI393.out | apply IsN.alloc | apply IsN.drewN | apply IsN.drew | apply IsN.set_1 | apply IsN.set_2 | refine IsN.far ?_ NB393_392.out _ | refine IsN.far ?_ NB393_397.out _ | refine IsN.far ?_ NB393_435.out _) | exact HI393.out)) hg (IsN.own_neS HI393.out HO_398000.out (by decide))); have n6_ := Aside0.mk (hb); have n7_ := Aside0.mk (ho); clear HO_398001; clear HO_398002; clear BK392; clear BK397; clear BK435; clear HI393; clear HB; clear HO_398000; clear HO_436003; have HO_398001 := n0_; have HO_398002 := n1_; have BK392 := n2_; have BK397 := n3_; have BK435 := n4_; have HI393 := n5_; have HB := n6_; have HO441 := n7_; clear n0_ n1_ n2_ n3_ n4_ n5_ n6_ n7_; clear ho hb hg hat; obtain ⟨Ao91, co91, eo91⟩ := Kd.S_slice HO441.out; subst eo91; have hcz92_0 : w89.cell? ⟨gb397, 0, none⟩ = some (u398000) := (kC BK397.out 0).trans rfl; have hcz92_1 : w89.cell? ⟨gb397, 1, none⟩ = some (u398001) := (kC BK397.out 1).trans rfl; have hcz92_2 : w89.cell? ⟨gb397, 2, none⟩ = some (u398002) := (kC BK397.out 2).trans rfl; have hcz92_3 : w89.cell? ⟨gb397, 3, none⟩ = some (.int .i64 t394) := (kC BK397.out 3).trans rfl; have hfz92_0 := kF BK397.out 0; have hfz92_1 := kF BK397.out 1; have hfz92_2 := kF BK397.out 2; have hfz92_3 := kF BK397.out 3))
           go_roundg k4
           case measure => have := HK1.out; have := HK2.out; have := HK3.out; have := HK4.out; omega
           case rel => exact ⟨(wrap64 (x68_3 + 1)), (y439), (.slice Ao91 y439.length co91), _, _, (by first | rfl | (simp; done) | (simp [*]; done)), H', ⟨by have := HK1.out; have := HK2.out; have := HK3.out; have := HK4.out; omega⟩, ⟨by (with_reducible repeat (first | apply Kd.S_alloc | apply Kd.S_drewN | apply Kd.S_drew)); exact Kd.S_mono (Kd.S_far (p := ⟨gb397, 0, none⟩) (Kd.S_types HO441.out BK397.out (by decide)) (fun _ hk => hk.2) (.slice Ao91 y439.length co91)) (fun _ hk => trivial)⟩, ⟨by (with_reducible repeat (first | apply Kd.R_alloc | apply Kd.R_drewN | apply Kd.R_drew)); exact Kd.R_mono (Kd.R_far (p := ⟨gb397, 0, none⟩) (Kd.R_types HO_398001.out BK397.out (by decide)) (fun _ hk => hk.2) (.slice Ao91 y439.length co91)) (fun _ hk => trivial)⟩, ⟨by (with_reducible repeat (first | apply Kd.R_alloc | apply Kd.R_drewN | apply Kd.R_drew)); exact Kd.R_mono (Kd.R_far (p := ⟨gb397, 0, none⟩) (Kd.R_types HO_398002.out BK397.out (by decide)) (fun _ hk => hk.2) (.slice Ao91 y439.length co91)) (fun _ hk => trivial)⟩, ⟨by (with_reducible repeat (first | refine kN ?_ _ | refine kD ?_ | refine kA ?_ _)); refine blk_far ?_ NB392_397.out _; (with_reducible repeat (first | refine kN ?_ _ | refine kD ?_ | refine kA ?_ _)); exact BK392.out⟩, ⟨by (with_reducible repeat (first | refine kN ?_ _ | refine kD ?_ | refine kA ?_ _)); refine kP (cs := #[u398000, u398001, u398002, .int .i64 t394]) ?_ 0 _ rfl; (with_reducible repeat (first | refine kN ?_ _ | refine kD ?_ | refine kA ?_ _)); exact BK397.out⟩, ⟨by repeat (first | (with_reducible first | exact HI393.out | apply IsN.alloc | apply IsN.drewN | apply IsN.drew | apply IsN.set_1 | apply IsN.set_2 | refine IsN.far ?_ NB393_392.out _ | refine IsN.far ?_ NB393_397.out _ | refine IsN.far ?_ NB393_435.out _) | exact HI393.out)⟩, ⟨by repeat (first | (with_reducible first | exact HB.out | apply bA | apply bN | apply bD | refine bS ?_ (IsN.ge HI393.out) | refine bS ?_ GE392.out | refine bS ?_ GE397.out | refine bS ?_ GE435.out) | exact HB.out)⟩⟩
          rw [if_neg c81] at H
          exact absurd H (by simp)
       rw [if_neg c40] at H
       have c40b0 : decide (x68_3 < t422) = false := decide_eq_false c40
       clear c40
       by_cases c93 : t424 = true
       ·subst c93
        have H1 : (some (([] : List (S40)), ([] : List Int), ([] : List ByteArray), 0, 31)) = some (r1, r2, r3, r4, r5) := by rw [if_pos rfl] at H; exact H
        clear H
        have H := H1
        clear H1
        simp only [Option.some.injEq, Prod.mk.injEq] at H
        obtain ⟨rfl, rfl, rfl, rfl, rfl⟩ := H
        obtain ⟨ASz94_0, cSz94_0, HGz94, hgz94, HSz94_0⟩ := HI393.out
        have hcz94_0 := cellN_0 HGz94
        have hcz94_1 := cellN_1 HGz94
        have hcz94_2 := cellN_2 HGz94
        have hfz94_1 := frozN_1 HGz94
        have hfz94_2 := frozN_2 HGz94
        clear HGz94 hgz94
        have hnb95 := NB392_397.out
        have hnc95 := NB397_392.out
        have hnb96 := NB392_393.out
        have hnc96 := NB393_392.out
        have hcz97_0 : wr.cell? ⟨gb392, 0, none⟩ = some (.slice none 0 0) := (kC BK392.out 0).trans rfl
        have hcz97_1 : wr.cell? ⟨gb392, 1, none⟩ = some (.slice none 0 0) := (kC BK392.out 1).trans rfl
        have hcz97_2 : wr.cell? ⟨gb392, 2, none⟩ = some (.slice none 0 0) := (kC BK392.out 2).trans rfl
        have hcz97_3 : wr.cell? ⟨gb392, 3, none⟩ = some (.int .i64 0) := (kC BK392.out 3).trans rfl
        have hfz97_0 := kF BK392.out 0
        have hfz97_1 := kF BK392.out 1
        have hfz97_2 := kF BK392.out 2
        have hfz97_3 := kF BK392.out 3
        go_wp2
        refine bodyPost_ret (results_ct rfl _ _ gb392 26 #[.slice none 0 0, .slice none 0 0, .slice none 0 0, .int .i64 0] (0, 0) _ rfl (by (with_reducible repeat (first | refine kN ?_ _ | refine kD ?_ | refine kA ?_ _)); refine kP (cs := #[.slice none 0 0, .slice none 0 0, .slice none 0 0, .int .i64 0]) ?_ 3 _ rfl; (with_reducible repeat (first | refine kN ?_ _ | refine kD ?_ | refine kA ?_ _)); refine kP (cs := #[.slice none 0 0, .slice none 0 0, .slice none 0 0, .int .i64 0]) ?_ 2 _ rfl; (with_reducible repeat (first | refine kN ?_ _ | refine kD ?_ | refine kA ?_ _)); refine kP (cs := #[.slice none 0 0, .slice none 0 0, .slice none 0 0, .int .i64 0]) ?_ 1 _ rfl; (with_reducible repeat (first | refine kN ?_ _ | refine kD ?_ | refine kA ?_ _)); refine kP (cs := #[.slice none 0 0, .slice none 0 0, .slice none 0 0, .int .i64 0]) ?_ 0 _ rfl; (with_reducible repeat (first | refine kN ?_ _ | refine kD ?_ | refine kA ?_ _)); exact BK392.out) Try.underlying26 rfl (by kernel_rfl)) rfl ?_
        exact ⟨_, _, _, by first | rfl | (simp [wN, wS] <;> rfl) | (simp [*, wN, wS] <;> rfl), by first | exact Kd.S_nil _ _ _ _ _ | exact Kd.N_nil _ _ _ _ _ | exact Kd.V_nil _ _ _ _ _ | exact Kd.Q_nil _ _ _ _ _ | exact Kd.R_nil _ _ _ _ _, by first | exact Kd.R_nil _ _ _ _ _ | exact Kd.N_nil _ _ _ _ _ | exact Kd.V_nil _ _ _ _ _ | exact Kd.Q_nil _ _ _ _ _ | exact Kd.S_nil _ _ _ _ _, by first | exact Kd.R_nil _ _ _ _ _ | exact Kd.N_nil _ _ _ _ _ | exact Kd.V_nil _ _ _ _ _ | exact Kd.Q_nil _ _ _ _ _ | exact Kd.S_nil _ _ _ _ _, by repeat (first | (with_reducible first | exact HB.out | apply bA | apply bN | apply bD | refine bS ?_ (IsN.ge HI393.out) | refine bS ?_ GE392.out | refine bS ?_ GE397.out) | exact HB.out)⟩
       replace c93 := Bool.eq_false_iff.mpr c93
       subst c93
       have H1 : (if ((l0.drop (t423).toNat).length : Int) > 0 then (some (([] : List (S40)), ([] : List Int), ([] : List ByteArray), 0, 31)) else ((code_May.f k3 x398000_3 x398001_1 x398002_2 t394).bind fun t425 => (if t425 = true then (some (x398000_3, x398001_1, x398002_2, t394, 0)) else (some (([] : List (S40)), ([] : List Int), ([] : List ByteArray), 0, 31))))) = some (r1, r2, r3, r4, r5) := by rw [if_neg (show ¬ (false = true) by decide)] at H; exact H
       clear H
       have H := H1
       clear H1
       by_cases c98 : ((l0.drop (t423).toNat).length : Int) > 0
       ·rw [if_pos c98] at H
        have c98b0 : decide (0 < ((l0.drop (t423).toNat).length : Int)) = true := decide_eq_true c98
        have c98b1 : decide (0 < (l0.drop (t423).toNat).length) = true := decide_eq_true (by omega)
        clear c98
        simp only [Option.some.injEq, Prod.mk.injEq] at H
        obtain ⟨rfl, rfl, rfl, rfl, rfl⟩ := H
        obtain ⟨ASz99_0, cSz99_0, HGz99, hgz99, HSz99_0⟩ := HI393.out
        have hcz99_0 := cellN_0 HGz99
        generalize (l0.drop (t423).toNat) = dr_ at *
        have hcz99_1 := cellN_1 HGz99
        have hcz99_2 := cellN_2 HGz99
        have hfz99_1 := frozN_1 HGz99
        have hfz99_2 := frozN_2 HGz99
        clear HGz99 hgz99
        have hnb100 := NB392_397.out
        have hnc100 := NB397_392.out
        have hnb101 := NB392_393.out
        have hnc101 := NB393_392.out
        have hcz102_0 : wr.cell? ⟨gb392, 0, none⟩ = some (.slice none 0 0) := (kC BK392.out 0).trans rfl
        have hcz102_1 : wr.cell? ⟨gb392, 1, none⟩ = some (.slice none 0 0) := (kC BK392.out 1).trans rfl
        have hcz102_2 : wr.cell? ⟨gb392, 2, none⟩ = some (.slice none 0 0) := (kC BK392.out 2).trans rfl
        have hcz102_3 : wr.cell? ⟨gb392, 3, none⟩ = some (.int .i64 0) := (kC BK392.out 3).trans rfl
        have hfz102_0 := kF BK392.out 0
        have hfz102_1 := kF BK392.out 1
        have hfz102_2 := kF BK392.out 2
        have hfz102_3 := kF BK392.out 3
        go_wp2
        refine bodyPost_ret (results_ct rfl _ _ gb392 26 #[.slice none 0 0, .slice none 0 0, .slice none 0 0, .int .i64 0] (0, 0) _ rfl (by (with_reducible repeat (first | refine kN ?_ _ | refine kD ?_ | refine kA ?_ _)); refine kP (cs := #[.slice none 0 0, .slice none 0 0, .slice none 0 0, .int .i64 0]) ?_ 3 _ rfl; (with_reducible repeat (first | refine kN ?_ _ | refine kD ?_ | refine kA ?_ _)); refine kP (cs := #[.slice none 0 0, .slice none 0 0, .slice none 0 0, .int .i64 0]) ?_ 2 _ rfl; (with_reducible repeat (first | refine kN ?_ _ | refine kD ?_ | refine kA ?_ _)); refine kP (cs := #[.slice none 0 0, .slice none 0 0, .slice none 0 0, .int .i64 0]) ?_ 1 _ rfl; (with_reducible repeat (first | refine kN ?_ _ | refine kD ?_ | refine kA ?_ _)); refine kP (cs := #[.slice none 0 0, .slice none 0 0, .slice none 0 0, .int .i64 0]) ?_ 0 _ rfl; (with_reducible repeat (first | refine kN ?_ _ | refine kD ?_ | refine kA ?_ _)); exact BK392.out) Try.underlying26 rfl (by kernel_rfl)) rfl ?_
        exact ⟨_, _, _, by first | rfl | (simp [wN, wS] <;> rfl) | (simp [*, wN, wS] <;> rfl), by first | exact Kd.S_nil _ _ _ _ _ | exact Kd.N_nil _ _ _ _ _ | exact Kd.V_nil _ _ _ _ _ | exact Kd.Q_nil _ _ _ _ _ | exact Kd.R_nil _ _ _ _ _, by first | exact Kd.R_nil _ _ _ _ _ | exact Kd.N_nil _ _ _ _ _ | exact Kd.V_nil _ _ _ _ _ | exact Kd.Q_nil _ _ _ _ _ | exact Kd.S_nil _ _ _ _ _, by first | exact Kd.R_nil _ _ _ _ _ | exact Kd.N_nil _ _ _ _ _ | exact Kd.V_nil _ _ _ _ _ | exact Kd.Q_nil _ _ _ _ _ | exact Kd.S_nil _ _ _ _ _, by repeat (first | (with_reducible first | exact HB.out | apply bA | apply bN | apply bD | refine bS ?_ (IsN.ge HI393.out) | refine bS ?_ GE392.out | refine bS ?_ GE397.out) | exact HB.out)⟩
       rw [if_neg c98] at H
       have c98b0 : decide (0 < ((l0.drop (t423).toNat).length : Int)) = false := decide_eq_false c98
       have c98b1 : decide (0 < (l0.drop (t423).toNat).length) = false := decide_eq_false (by omega)
       clear c98
       replace H := Option.bind_eq_some_iff.mp H
       obtain ⟨t425, A1030, H⟩ := H
       replace H : (if t425 = true then (some (x398000_3, x398001_1, x398002_2, t394, 0)) else (some (([] : List (S40)), ([] : List Int), ([] : List ByteArray), 0, 31))) = some (r1, r2, r3, r4, r5) := H
       have A103 := Aside0.mk A1030
       clear A1030
       by_cases c104 : t425 = true
       ·subst c104
        have H1 : (some (x398000_3, x398001_1, x398002_2, t394, 0)) = some (r1, r2, r3, r4, r5) := by rw [if_pos rfl] at H; exact H
        clear H
        have H := H1
        clear H1
        simp only [Option.some.injEq, Prod.mk.injEq] at H
        obtain ⟨rfl, rfl, rfl, rfl, rfl⟩ := H
        obtain ⟨ASz105_0, cSz105_0, HGz105, hgz105, HSz105_0⟩ := HI393.out
        have hcz105_0 := cellN_0 HGz105
        generalize (l0.drop (t423).toNat) = dr_ at *
        have hcz105_1 := cellN_1 HGz105
        have hcz105_2 := cellN_2 HGz105
        have hfz105_1 := frozN_1 HGz105
        have hfz105_2 := frozN_2 HGz105
        clear HGz105 hgz105
        have hnb106 := NB397_392.out
        have hnc106 := NB392_397.out
        have hnb107 := NB397_393.out
        have hnc107 := NB393_397.out
        have hcz108_0 : wr.cell? ⟨gb397, 0, none⟩ = some (u398000) := (kC BK397.out 0).trans rfl
        have hcz108_1 : wr.cell? ⟨gb397, 1, none⟩ = some (u398001) := (kC BK397.out 1).trans rfl
        have hcz108_2 : wr.cell? ⟨gb397, 2, none⟩ = some (u398002) := (kC BK397.out 2).trans rfl
        have hcz108_3 : wr.cell? ⟨gb397, 3, none⟩ = some (.int .i64 t394) := (kC BK397.out 3).trans rfl
        have hfz108_0 := kF BK397.out 0
        have hfz108_1 := kF BK397.out 1
        have hfz108_2 := kF BK397.out 2
        have hfz108_3 := kF BK397.out 3
        obtain ⟨Ao109, co109, eo109⟩ := Kd.S_slice HO_398000.out
        subst eo109
        obtain ⟨Ao110, co110, eo110⟩ := Kd.R_slice HO_398001.out
        subst eo110
        obtain ⟨Ao111, co111, eo111⟩ := Kd.R_slice HO_398002.out
        subst eo111
        go_wp2_with (first | (go_at_call 13; (with_reducible refine (code_May.calls k3 _ _ x398000_3 _ _ x398001_1 _ _ x398002_2 t394 true _ ?side1 ?side2 ?side3 ?side4 ?side5 ?side6 A103.out).mono ?_); (case side1 => repeat (first | exact (Kd.S_reads' HO_398000.out).2.2 | (with_reducible refine Kd.C_alloc ?_ _) | (with_reducible refine Kd.C_drewN ?_ _) | (with_reducible refine Kd.C_drew ?_))); (case side2 => exact (Kd.S_reads' HO_398000.out).2.1); (case side3 => repeat (first | exact (Kd.R_reads' HO_398001.out).2.2 | (with_reducible refine Kd.C_alloc ?_ _) | (with_reducible refine Kd.C_drewN ?_ _) | (with_reducible refine Kd.C_drew ?_))); (case side4 => exact (Kd.R_reads' HO_398001.out).2.1); (case side5 => repeat (first | exact (Kd.R_reads' HO_398002.out).2.2 | (with_reducible refine Kd.C_alloc ?_ _) | (with_reducible refine Kd.C_drewN ?_ _) | (with_reducible refine Kd.C_drew ?_))); (case side6 => exact (Kd.R_reads' HO_398002.out).2.1); rintro e w112 ⟨rfl, hb⟩; have n0_ := Aside0.mk (Kd.S_below (by (with_reducible repeat (first | apply Kd.S_alloc | apply Kd.S_drewN | apply Kd.S_drew)); exact HO_398000.out) hb); have n1_ := Aside0.mk (Kd.R_below (by (with_reducible repeat (first | apply Kd.R_alloc | apply Kd.R_drewN | apply Kd.R_drew)); exact HO_398001.out) hb); have n2_ := Aside0.mk (Kd.R_below (by (with_reducible repeat (first | apply Kd.R_alloc | apply Kd.R_drewN | apply Kd.R_drew)); exact HO_398002.out) hb); have n3_ := Aside0.mk (kB (g := gb392) (o := .cells #[.slice none 0 0, .slice none 0 0, .slice none 0 0, .int .i64 0] 26 (0, 0)) (by (with_reducible repeat (first | refine kN ?_ _ | refine kD ?_ | refine kA ?_ _)); exact BK392.out) hb); have n4_ := Aside0.mk (kB (g := gb397) (o := .cells #[.slice Ao109 x398000_3.length co109, .slice Ao110 x398001_1.length co110, .slice Ao111 x398002_2.length co111, .int .i64 t394] 26 (0, 0)) (by (with_reducible repeat (first | refine kN ?_ _ | refine kD ?_ | refine kA ?_ _)); exact BK397.out) hb); have n5_ := Aside0.mk (IsN.below (by repeat (first | (with_reducible first | exact HI393.out | apply IsN.alloc | apply IsN.drewN | apply IsN.drew | apply IsN.set_1 | apply IsN.set_2 | refine IsN.far ?_ NB393_392.out _ | refine IsN.far ?_ NB393_397.out _) | exact HI393.out)) hb); have n6_ := Aside0.mk (bT (by repeat (first | (with_reducible first | exact HB.out | apply bA | apply bN | apply bD | refine bS ?_ (IsN.ge HI393.out) | refine bS ?_ GE392.out | refine bS ?_ GE397.out) | exact HB.out)) hb); clear HO_398000; clear HO_398001; clear HO_398002; clear BK392; clear BK397; clear HI393; clear HB; have HO_398000 := n0_; have HO_398001 := n1_; have HO_398002 := n2_; have BK392 := n3_; have BK397 := n4_; have HI393 := n5_; have HB := n6_; clear n0_ n1_ n2_ n3_ n4_ n5_ n6_; (try clear hb); (try clear hb2); (try clear hk); (try clear hi); have hcz113_0 : w112.cell? ⟨gb397, 0, none⟩ = some (.slice Ao109 x398000_3.length co109) := (kC BK397.out 0).trans rfl; have hcz113_1 : w112.cell? ⟨gb397, 1, none⟩ = some (.slice Ao110 x398001_1.length co110) := (kC BK397.out 1).trans rfl; have hcz113_2 : w112.cell? ⟨gb397, 2, none⟩ = some (.slice Ao111 x398002_2.length co111) := (kC BK397.out 2).trans rfl; have hcz113_3 : w112.cell? ⟨gb397, 3, none⟩ = some (.int .i64 t394) := (kC BK397.out 3).trans rfl; have hfz113_0 := kF BK397.out 0; have hfz113_1 := kF BK397.out 1; have hfz113_2 := kF BK397.out 2; have hfz113_3 := kF BK397.out 3; have hnb114 := NB392_393.out; have hnc114 := NB393_392.out; have hcz115_0 : w112.cell? ⟨gb392, 0, none⟩ = some (.slice none 0 0) := (kC BK392.out 0).trans rfl; have hcz115_1 : w112.cell? ⟨gb392, 1, none⟩ = some (.slice none 0 0) := (kC BK392.out 1).trans rfl; have hcz115_2 : w112.cell? ⟨gb392, 2, none⟩ = some (.slice none 0 0) := (kC BK392.out 2).trans rfl; have hcz115_3 : w112.cell? ⟨gb392, 3, none⟩ = some (.int .i64 0) := (kC BK392.out 3).trans rfl; have hfz115_0 := kF BK392.out 0; have hfz115_1 := kF BK392.out 1; have hfz115_2 := kF BK392.out 2; have hfz115_3 := kF BK392.out 3))
        refine bodyPost_ret (results_ct rfl _ _ gb392 26 #[.slice Ao109 x398000_3.length co109, .slice Ao110 x398001_1.length co110, .slice Ao111 x398002_2.length co111, .int .i64 t394] (0, 0) _ rfl (by (with_reducible repeat (first | refine kN ?_ _ | refine kD ?_ | refine kA ?_ _)); refine kP (cs := #[.slice Ao109 x398000_3.length co109, .slice Ao110 x398001_1.length co110, .slice Ao111 x398002_2.length co111, .int .i64 0]) ?_ 3 _ rfl; (with_reducible repeat (first | refine kN ?_ _ | refine kD ?_ | refine kA ?_ _)); refine kP (cs := #[.slice Ao109 x398000_3.length co109, .slice Ao110 x398001_1.length co110, .slice none 0 0, .int .i64 0]) ?_ 2 _ rfl; (with_reducible repeat (first | refine kN ?_ _ | refine kD ?_ | refine kA ?_ _)); refine kP (cs := #[.slice Ao109 x398000_3.length co109, .slice none 0 0, .slice none 0 0, .int .i64 0]) ?_ 1 _ rfl; (with_reducible repeat (first | refine kN ?_ _ | refine kD ?_ | refine kA ?_ _)); refine kP (cs := #[.slice none 0 0, .slice none 0 0, .slice none 0 0, .int .i64 0]) ?_ 0 _ rfl; (with_reducible repeat (first | refine kN ?_ _ | refine kD ?_ | refine kA ?_ _)); exact BK392.out) Try.underlying26 rfl (by kernel_rfl)) rfl ?_
        exact ⟨_, _, _, by first | rfl | (simp [wN, wS] <;> rfl) | (simp [*, wN, wS] <;> rfl), by (with_reducible repeat (first | apply Kd.S_alloc | apply Kd.S_drewN | apply Kd.S_drew)); exact Kd.S_mono (Kd.S_far (p := ⟨gb392, 3, none⟩) (Kd.S_far (p := ⟨gb392, 2, none⟩) (Kd.S_far (p := ⟨gb392, 1, none⟩) (Kd.S_far (p := ⟨gb392, 0, none⟩) (Kd.S_types HO_398000.out BK392.out (by decide)) (fun _ hk => hk.2) (.slice Ao109 x398000_3.length co109)) (fun _ hk => hk.2) (.slice Ao110 x398001_1.length co110)) (fun _ hk => hk.2) (.slice Ao111 x398002_2.length co111)) (fun _ hk => hk.2) (.int .i64 t394)) (fun _ hk => trivial), by (with_reducible repeat (first | apply Kd.R_alloc | apply Kd.R_drewN | apply Kd.R_drew)); exact Kd.R_mono (Kd.R_far (p := ⟨gb392, 3, none⟩) (Kd.R_far (p := ⟨gb392, 2, none⟩) (Kd.R_far (p := ⟨gb392, 1, none⟩) (Kd.R_far (p := ⟨gb392, 0, none⟩) (Kd.R_types HO_398001.out BK392.out (by decide)) (fun _ hk => hk.2) (.slice Ao109 x398000_3.length co109)) (fun _ hk => hk.2) (.slice Ao110 x398001_1.length co110)) (fun _ hk => hk.2) (.slice Ao111 x398002_2.length co111)) (fun _ hk => hk.2) (.int .i64 t394)) (fun _ hk => trivial), by (with_reducible repeat (first | apply Kd.R_alloc | apply Kd.R_drewN | apply Kd.R_drew)); exact Kd.R_mono (Kd.R_far (p := ⟨gb392, 3, none⟩) (Kd.R_far (p := ⟨gb392, 2, none⟩) (Kd.R_far (p := ⟨gb392, 1, none⟩) (Kd.R_far (p := ⟨gb392, 0, none⟩) (Kd.R_types HO_398002.out BK392.out (by decide)) (fun _ hk => hk.2) (.slice Ao109 x398000_3.length co109)) (fun _ hk => hk.2) (.slice Ao110 x398001_1.length co110)) (fun _ hk => hk.2) (.slice Ao111 x398002_2.length co111)) (fun _ hk => hk.2) (.int .i64 t394)) (fun _ hk => trivial), by repeat (first | (with_reducible first | exact HB.out | apply bA | apply bN | apply bD | refine bS ?_ (IsN.ge HI393.out) | refine bS ?_ GE392.out | refine bS ?_ GE397.out) | exact HB.out)⟩
       replace c104 := Bool.eq_false_iff.mpr c104
       subst c104
       have H1 : (some (([] : List (S40)), ([] : List Int), ([] : List ByteArray), 0, 31)) = some (r1, r2, r3, r4, r5) := by rw [if_neg (show ¬ (false = true) by decide)] at H; exact H
       clear H
       have H := H1
       clear H1
       simp only [Option.some.injEq, Prod.mk.injEq] at H
       obtain ⟨rfl, rfl, rfl, rfl, rfl⟩ := H
       obtain ⟨ASz116_0, cSz116_0, HGz116, hgz116, HSz116_0⟩ := HI393.out
       have hcz116_0 := cellN_0 HGz116
       generalize (l0.drop (t423).toNat) = dr_ at *
       have hcz116_1 := cellN_1 HGz116
       have hcz116_2 := cellN_2 HGz116
       have hfz116_1 := frozN_1 HGz116
       have hfz116_2 := frozN_2 HGz116
       clear HGz116 hgz116
       have hnb117 := NB397_392.out
       have hnc117 := NB392_397.out
       have hnb118 := NB397_393.out
       have hnc118 := NB393_397.out
       have hcz119_0 : wr.cell? ⟨gb397, 0, none⟩ = some (u398000) := (kC BK397.out 0).trans rfl
       have hcz119_1 : wr.cell? ⟨gb397, 1, none⟩ = some (u398001) := (kC BK397.out 1).trans rfl
       have hcz119_2 : wr.cell? ⟨gb397, 2, none⟩ = some (u398002) := (kC BK397.out 2).trans rfl
       have hcz119_3 : wr.cell? ⟨gb397, 3, none⟩ = some (.int .i64 t394) := (kC BK397.out 3).trans rfl
       have hfz119_0 := kF BK397.out 0
       have hfz119_1 := kF BK397.out 1
       have hfz119_2 := kF BK397.out 2
       have hfz119_3 := kF BK397.out 3
       obtain ⟨Ao120, co120, eo120⟩ := Kd.S_slice HO_398000.out
       subst eo120
       obtain ⟨Ao121, co121, eo121⟩ := Kd.R_slice HO_398001.out
       subst eo121
       obtain ⟨Ao122, co122, eo122⟩ := Kd.R_slice HO_398002.out
       subst eo122
       go_wp2_with (first | (go_at_call 13; (with_reducible refine (code_May.calls k3 _ _ x398000_3 _ _ x398001_1 _ _ x398002_2 t394 false _ ?side1 ?side2 ?side3 ?side4 ?side5 ?side6 A103.out).mono ?_); (case side1 => repeat (first | exact (Kd.S_reads' HO_398000.out).2.2 | (with_reducible refine Kd.C_alloc ?_ _) | (with_reducible refine Kd.C_drewN ?_ _) | (with_reducible refine Kd.C_drew ?_))); (case side2 => exact (Kd.S_reads' HO_398000.out).2.1); (case side3 => repeat (first | exact (Kd.R_reads' HO_398001.out).2.2 | (with_reducible refine Kd.C_alloc ?_ _) | (with_reducible refine Kd.C_drewN ?_ _) | (with_reducible refine Kd.C_drew ?_))); (case side4 => exact (Kd.R_reads' HO_398001.out).2.1); (case side5 => repeat (first | exact (Kd.R_reads' HO_398002.out).2.2 | (with_reducible refine Kd.C_alloc ?_ _) | (with_reducible refine Kd.C_drewN ?_ _) | (with_reducible refine Kd.C_drew ?_))); (case side6 => exact (Kd.R_reads' HO_398002.out).2.1); rintro e w123 ⟨rfl, hb⟩; have n0_ := Aside0.mk (Kd.S_below (by (with_reducible repeat (first | apply Kd.S_alloc | apply Kd.S_drewN | apply Kd.S_drew)); exact HO_398000.out) hb); have n1_ := Aside0.mk (Kd.R_below (by (with_reducible repeat (first | apply Kd.R_alloc | apply Kd.R_drewN | apply Kd.R_drew)); exact HO_398001.out) hb); have n2_ := Aside0.mk (Kd.R_below (by (with_reducible repeat (first | apply Kd.R_alloc | apply Kd.R_drewN | apply Kd.R_drew)); exact HO_398002.out) hb); have n3_ := Aside0.mk (kB (g := gb392) (o := .cells #[.slice none 0 0, .slice none 0 0, .slice none 0 0, .int .i64 0] 26 (0, 0)) (by (with_reducible repeat (first | refine kN ?_ _ | refine kD ?_ | refine kA ?_ _)); exact BK392.out) hb); have n4_ := Aside0.mk (kB (g := gb397) (o := .cells #[.slice Ao120 x398000_3.length co120, .slice Ao121 x398001_1.length co121, .slice Ao122 x398002_2.length co122, .int .i64 t394] 26 (0, 0)) (by (with_reducible repeat (first | refine kN ?_ _ | refine kD ?_ | refine kA ?_ _)); exact BK397.out) hb); have n5_ := Aside0.mk (IsN.below (by repeat (first | (with_reducible first | exact HI393.out | apply IsN.alloc | apply IsN.drewN | apply IsN.drew | apply IsN.set_1 | apply IsN.set_2 | refine IsN.far ?_ NB393_392.out _ | refine IsN.far ?_ NB393_397.out _) | exact HI393.out)) hb); have n6_ := Aside0.mk (bT (by repeat (first | (with_reducible first | exact HB.out | apply bA | apply bN | apply bD | refine bS ?_ (IsN.ge HI393.out) | refine bS ?_ GE392.out | refine bS ?_ GE397.out) | exact HB.out)) hb); clear HO_398000; clear HO_398001; clear HO_398002; clear BK392; clear BK397; clear HI393; clear HB; have HO_398000 := n0_; have HO_398001 := n1_; have HO_398002 := n2_; have BK392 := n3_; have BK397 := n4_; have HI393 := n5_; have HB := n6_; clear n0_ n1_ n2_ n3_ n4_ n5_ n6_; (try clear hb); (try clear hb2); (try clear hk); (try clear hi); have hnb124 := NB392_393.out; have hnc124 := NB393_392.out; have hcz125_0 : w123.cell? ⟨gb392, 0, none⟩ = some (.slice none 0 0) := (kC BK392.out 0).trans rfl; have hcz125_1 : w123.cell? ⟨gb392, 1, none⟩ = some (.slice none 0 0) := (kC BK392.out 1).trans rfl; have hcz125_2 : w123.cell? ⟨gb392, 2, none⟩ = some (.slice none 0 0) := (kC BK392.out 2).trans rfl; have hcz125_3 : w123.cell? ⟨gb392, 3, none⟩ = some (.int .i64 0) := (kC BK392.out 3).trans rfl; have hfz125_0 := kF BK392.out 0; have hfz125_1 := kF BK392.out 1; have hfz125_2 := kF BK392.out 2; have hfz125_3 := kF BK392.out 3))
       refine bodyPost_ret (results_ct rfl _ _ gb392 26 #[.slice none 0 0, .slice none 0 0, .slice none 0 0, .int .i64 0] (0, 0) _ rfl (by (with_reducible repeat (first | refine kN ?_ _ | refine kD ?_ | refine kA ?_ _)); refine kP (cs := #[.slice none 0 0, .slice none 0 0, .slice none 0 0, .int .i64 0]) ?_ 3 _ rfl; (with_reducible repeat (first | refine kN ?_ _ | refine kD ?_ | refine kA ?_ _)); refine kP (cs := #[.slice none 0 0, .slice none 0 0, .slice none 0 0, .int .i64 0]) ?_ 2 _ rfl; (with_reducible repeat (first | refine kN ?_ _ | refine kD ?_ | refine kA ?_ _)); refine kP (cs := #[.slice none 0 0, .slice none 0 0, .slice none 0 0, .int .i64 0]) ?_ 1 _ rfl; (with_reducible repeat (first | refine kN ?_ _ | refine kD ?_ | refine kA ?_ _)); refine kP (cs := #[.slice none 0 0, .slice none 0 0, .slice none 0 0, .int .i64 0]) ?_ 0 _ rfl; (with_reducible repeat (first | refine kN ?_ _ | refine kD ?_ | refine kA ?_ _)); exact BK392.out) Try.underlying26 rfl (by kernel_rfl)) rfl ?_
       exact ⟨_, _, _, by first | rfl | (simp [wN, wS] <;> rfl) | (simp [*, wN, wS] <;> rfl), by first | exact Kd.S_nil _ _ _ _ _ | exact Kd.N_nil _ _ _ _ _ | exact Kd.V_nil _ _ _ _ _ | exact Kd.Q_nil _ _ _ _ _ | exact Kd.R_nil _ _ _ _ _, by first | exact Kd.R_nil _ _ _ _ _ | exact Kd.N_nil _ _ _ _ _ | exact Kd.V_nil _ _ _ _ _ | exact Kd.Q_nil _ _ _ _ _ | exact Kd.S_nil _ _ _ _ _, by first | exact Kd.R_nil _ _ _ _ _ | exact Kd.N_nil _ _ _ _ _ | exact Kd.V_nil _ _ _ _ _ | exact Kd.Q_nil _ _ _ _ _ | exact Kd.S_nil _ _ _ _ _, by repeat (first | (with_reducible first | exact HB.out | apply bA | apply bN | apply bD | refine bS ?_ (IsN.ge HI393.out) | refine bS ?_ GE392.out | refine bS ?_ GE397.out) | exact HB.out)⟩

end Go.Proofs.Ytadbiogchgglpaa.Q
