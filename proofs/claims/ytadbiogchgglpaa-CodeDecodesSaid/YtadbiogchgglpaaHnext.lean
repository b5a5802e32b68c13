import Derived.Test.YtadbiogchgglpaaQx0
namespace Go.Proofs.Ytadbiogchgglpaa.Q
open Go.RowKit Go.Proofs.YtadbiogchgglpaaW.PrintWords Go.Proofs.YtadbiogchgglpaaW.PrintLast Go.Proofs.YtadbiogchgglpaaW.PrintMore
set_option linter.unusedVariables false
set_option linter.unusedSimpArgs false

/-! ### what the closure holds: 'short' at block g, 'rest' at block g + 1 -/
def BlkN (W : World) (g : Nat) (A : Option Addr) (c : Nat) (f0 : List Int) (f1 : Int) (f2 : Bool) : Prop :=
  W.heap[g + 1]? = some (.cells #[.slice A (f0.drop f1.toNat).length c] 28 (0, 0)) ∧ W.heap[g]? = some (.cells #[.bool f2] 4 (0, 0))
def IsN (w0 W : World) (g : Nat) (f0 : List Int) (f1 : Int) (f2 : Bool) : Prop :=
  ∃ A c, BlkN W g A c f0 f1 f2 ∧ w0.heap.size ≤ g ∧ (0 ≤ f1 ∧ (f0.drop f1.toNat).length ≤ c ∧ Kd.C (Kd.int .u8) w0 A (f0.drop f1.toNat).length (f0.drop f1.toNat))
/-- All but variables of a bool and of bytes stays. -/
def KeepN (w w1 : World) : Prop := w.heap.size ≤ w1.heap.size ∧ ∀ (i : Nat) (cs : Array Value) (t : TypeId) (fr : Nat × Nat), w.heap[i]? = some (.cells cs t fr) → t ≠ 4 → t ≠ 28 → w1.heap[i]? = w.heap[i]?
def NoVar : Obj → Prop
  | .cells _ t _ => t ≠ 4 ∧ t ≠ 28
  | _ => False
theorem KB_blk {w w1 : World} (hk : KeepN w w1) {g' : Nat} {o : Obj} (h : w.heap[g']? = some o) (ho : NoVar o) : w1.heap[g']? = some o := by
  cases o with
  | cells cs t fr => exact (hk.2 _ _ _ _ h ho.1 ho.2).trans h
  | _ => exact absurd ho (by simp [NoVar])
section
variable {w0 W W1 : World} {g : Nat} {f0 : List Int} {f1 : Int} {f2 : Bool}
theorem IsN.move (h : IsN w0 W g f0 f1 f2) (h1 : W1.heap[g]? = W.heap[g]?) (h2 : W1.heap[g + 1]? = W.heap[g + 1]?) : IsN w0 W1 g f0 f1 f2 := by
  obtain ⟨A, c, hb, r⟩ := h
  exact ⟨A, c, ⟨h2.trans hb.1, h1.trans hb.2⟩, r⟩
theorem IsN.lt2 (h : IsN w0 W g f0 f1 f2) : g + 1 < W.heap.size := by
  obtain ⟨A, c, hb, r⟩ := h
  exact blk_lt hb.1
theorem IsN.lt (h : IsN w0 W g f0 f1 f2) : g < W.heap.size := Nat.lt_of_succ_lt h.lt2
theorem IsN.ge (h : IsN w0 W g f0 f1 f2) : w0.heap.size ≤ g := by
  obtain ⟨A, c, hb, r⟩ := h
  exact r.1
theorem IsN.grown {row : Option Nat} (h : IsN w0 W g f0 f1 f2) (hw : W.grownBy W1 row) (hne : some g ≠ row ∧ some (g + 1) ≠ row) : IsN w0 W1 g f0 f1 f2 :=
  h.move (hw.block g h.lt hne.1) (hw.block (g + 1) h.lt2 hne.2)
theorem IsN.below (h : IsN w0 W g f0 f1 f2) (hw : Below W.heap.size W W1) : IsN w0 W1 g f0 f1 f2 := h.grown (grown_of_below hw none) (by simp)
theorem IsN.alloc (h : IsN w0 W g f0 f1 f2) (o : Obj) : IsN w0 (W.alloc o) g f0 f1 f2 := h.below (bA (Below.refl _ _) o)
theorem IsN.drewN (h : IsN w0 W g f0 f1 f2) (m : Nat) : IsN w0 (W.drewN m) g f0 f1 f2 := h
theorem IsN.drew (h : IsN w0 W g f0 f1 f2) : IsN w0 W.drew g f0 f1 f2 := h
/-- Both blocks are not this one. -/
def Ne2 (g a : Nat) : Prop := g ≠ a ∧ g + 1 ≠ a
theorem IsN.far {p : Addr} (h : IsN w0 W g f0 f1 f2) (hne : Ne2 g p.block) (u : Value) : IsN w0 (W.setCell p u) g f0 f1 f2 :=
  h.move (Below.heap_setCell W p u g hne.1) (Below.heap_setCell W p u (g + 1) hne.2)
theorem IsN.apart {α : Type} {d : Kd α} {e : Nat} {base : Nat} {ok : Nat → Prop} {v : Value} {xs : List α} (h : IsN w0 W g f0 f1 f2) (ho : d.R e W base ok v xs) (ht : ∀ q, q ∈ e :: d.E → q ≠ 4 ∧ q ≠ 28) : d.R e W base (fun k => ok k ∧ k ≠ g) v xs := by
  obtain ⟨A, c, hb, r⟩ := h
  exact Kd.R_types ho hb.2 (fun q hq => (ht q hq).1)
theorem IsN.apartS {α : Type} {d : Kd α} {e : Nat} {base : Nat} {ok : Nat → Prop} {v : Value} {xs : List α} (h : IsN w0 W g f0 f1 f2) (ho : d.S e W base ok v xs) (ht : ∀ q, q ∈ e :: d.E → q ≠ 4 ∧ q ≠ 28) : d.S e W base (fun k => ok k ∧ k ≠ g) v xs := by
  obtain ⟨A, c, hb, r⟩ := h
  exact Kd.S_types ho hb.2 (fun q hq => (ht q hq).1)
theorem IsN.own_ne {α : Type} {d : Kd α} {e : Nat} {base : Nat} {ok : Nat → Prop} {v : Value} {xs : List α} (h : IsN w0 W g f0 f1 f2) (ho : d.R e W base ok v xs) (ht : e ≠ 4 ∧ e ≠ 28) : some g ≠ v.ownBlock ∧ some (g + 1) ≠ v.ownBlock := by
  obtain ⟨A, c, hb, r⟩ := h
  exact ⟨Kd.R_ne ho hb.2 ht.1, Kd.R_ne ho hb.1 ht.2⟩
theorem IsN.own_neS {α : Type} {d : Kd α} {e : Nat} {base : Nat} {ok : Nat → Prop} {v : Value} {xs : List α} (h : IsN w0 W g f0 f1 f2) (ho : d.S e W base ok v xs) (ht : e ≠ 4 ∧ e ≠ 28) : some g ≠ v.ownBlock ∧ some (g + 1) ≠ v.ownBlock := h.own_ne (Kd.S_R ho) ht
theorem R_keepN {α : Type} {d : Kd α} {e : Nat} {w w1 : World} {base : Nat} {ok : Nat → Prop} {v : Value} {xs : List α} (h : d.R e w base ok v xs) (hk : KeepN w w1) (hE : ∀ q, q ∈ e :: d.E → q ≠ 4 ∧ q ≠ 28) : d.R e w1 base ok v xs := by
  refine Kd.R_mono (Kd.R_move (Kd.R_bound h) (fun k hk2 => ?_)) (fun _ hk2 => hk2.1)
  obtain ⟨_, _, _, q, hq, cells, hc⟩ := hk2
  exact hk.2 _ _ _ _ hc (hE q hq).1 (hE q hq).2
theorem S_keepN {α : Type} {d : Kd α} {e : Nat} {w w1 : World} {base : Nat} {ok : Nat → Prop} {v : Value} {xs : List α} (h : d.S e w base ok v xs) (hk : KeepN w w1) (hE : ∀ q, q ∈ e :: d.E → q ≠ 4 ∧ q ≠ 28) : d.S e w1 base ok v xs := by
  refine Kd.S_mono (Kd.S_move (Kd.S_bound h) (fun k hk2 => ?_)) (fun _ hk2 => hk2.1)
  obtain ⟨_, _, _, q, hq, cells, hc⟩ := hk2
  exact hk.2 _ _ _ _ hc (hE q hq).1 (hE q hq).2
theorem cellN_0 {A : Option Addr} {c : Nat} (h : BlkN W g A c f0 f1 f2) : W.cell? ⟨g + 1, 0, none⟩ = some (.slice A (f0.drop f1.toNat).length c) := (kC h.1 0).trans rfl
theorem cellN_1 {A : Option Addr} {c : Nat} (h : BlkN W g A c f0 f1 f2) : True := trivial
theorem cellN_2 {A : Option Addr} {c : Nat} (h : BlkN W g A c f0 f1 f2) : W.cell? ⟨g, 0, none⟩ = some (.bool f2) := (kC h.2 0).trans rfl
theorem frozN_1 {A : Option Addr} {c : Nat} (h : BlkN W g A c f0 f1 f2) : W.frozen? ⟨g + 1, 0, none⟩ = false := kF h.1 0
theorem frozN_2 {A : Option Addr} {c : Nat} (h : BlkN W g A c f0 f1 f2) : W.frozen? ⟨g, 0, none⟩ = false := kF h.2 0
end
theorem C_drop {w : World} {A : Option Addr} {l : List Int} {m : Nat} (h : Kd.C (Kd.int .u8) w A l.length l) (hm : m ≤ l.length) : Kd.C (Kd.int .u8) w (Option.map (fun x => x.add m) A) (l.drop m).length (l.drop m) := by
  obtain ⟨_, h1, h2⟩ := h
  refine ⟨rfl, by rw [List.length_drop]; omega, fun hp => ?_⟩
  rw [List.length_drop] at hp
  obtain ⟨ad, rfl, hc⟩ := h2 (by omega)
  refine ⟨ad.add m, rfl, fun j p hj => ?_⟩
  rw [List.getElem?_drop] at hj
  obtain ⟨c, hl, hK, hcell⟩ := hc (m + j) p hj
  refine ⟨c, hl, hK, fun i u hi => ?_⟩
  have := hcell i u hi
  rw [Addr.add_add]
  have e : m + (j * (Kd.int .u8).sz + i) = (m + j) * (Kd.int .u8).sz + i := by
    have : (Kd.int .u8).sz = 1 := rfl
    rw [this]; omega
  rw [e]; exact this
/-! ### next -/
/-- Where Decode begins to read, and whether the first bytes are missing. -/
def startI (l : List Int) : Int := if (l.length : Int) < 3 then (l.length : Int) else 3
def startS (l : List Int) : Bool := if (l.length : Int) < 3 then true else (strOfNums (l.take 3)).toList != ([83, 77, 49] : List UInt8)
def nextN (l : List Int) : Nat → Nat → Int → Int
  | 0, _, n => n
  | m + 1, i, n => nextN l m (i + 1) (Go.bits .or .i64 n (wrap64 (wrap64 (rd l (i : Int)) * 2 ^ (8 * i))))
def cD1.f (a0 : Int) (B : List Int) (I : Int) (S : Bool) : Option (Int × Int × Bool) :=
  if 0 ≤ a0 ∧ a0 ≤ 8 then (if ((B.drop I.toNat).length : Int) < a0 then some (0, (B.length : Int), true) else some (nextN (B.drop I.toNat) a0.toNat 0 0, I + a0, S)) else none
set_option maxHeartbeats 2000000 in
theorem cD1.calls (a0 : Int) (g : Nat) (B : List Int) (I : Int) (S : Bool) (r1 r2 : Int) (r3 : Bool) (w0 w : World) (hI : IsN w0 w g B I S) (hB : Below w0.heap.size w0 w) (h : cD1.f a0 B I S = some (r1, r2, r3)) :
    Calls Try.prog 33 #[.int .i64 a0, .pointer (some ⟨g + 1, 0, none⟩), .pointer (some ⟨g, 0, none⟩)] w fun e w' => e = .returned (.int .i64 r1) ∧ IsN w0 w' g B r2 r3 ∧ Below w0.heap.size w0 w' ∧ KeepN w w' := by
  unfold cD1.f at h
  have hu28 := Try.underlying28
  by_cases ha : 0 ≤ a0 ∧ a0 ≤ 8
  · rw [if_pos ha] at h
    obtain ⟨A, c, hb, hg, hI0, hlc, hC⟩ := hI
    have hc0 := cellN_0 hb
    have hc2 := cellN_2 hb
    have hf1 := frozN_1 hb
    have hf2 := frozN_2 hb
    generalize hl : B.drop I.toNat = l at *
    by_cases hs : (l.length : Int) < a0
    · rw [if_pos hs] at h
      simp only [Option.some.injEq, Prod.mk.injEq] at h
      obtain ⟨rfl, rfl, rfl⟩ := h
      have hsb : decide ((l.length : Int) < a0) = true := decide_eq_true hs
      have hne : g ≠ g + 1 := by omega
      go_enter Try.func33, Try.ntmps33
      go_wp2
      go_ret
      have hlt1 : g < w.heap.size := blk_lt hb.2
      have hdn : B.drop (B.length : Int).toNat = [] := by simp
      refine ⟨rfl, ⟨none, 0, ⟨?_, ?_⟩, hg, by omega, by rw [hdn]; exact Nat.le_refl _, by rw [hdn]; exact Kd.C_nil _ _⟩, ?_, ?_⟩
      · rw [hdn]
        have h1 := blk_far hb.1 (p := ⟨g, 0, none⟩) (show g + 1 ≠ g by omega) (.bool true)
        simpa using blk_set h1 0 (.slice none 0 0)
      · have h1 := blk_set hb.2 0 (.bool true)
        simpa using blk_far h1 (p := ⟨g + 1, 0, none⟩) (show g ≠ g + 1 by omega) (.slice none 0 0)
      · exact bS (bS hB hg) (Nat.le_succ_of_le hg)
      · refine ⟨by simp, fun i cs t fr hi h4 h28 => ?_⟩
        have n1 : i ≠ g := by
          rintro rfl
          rw [hb.2] at hi
          injection hi with hi
          injection hi with _ e
          exact h4 e.symm
        have n2 : i ≠ g + 1 := by
          rintro rfl
          rw [hb.1] at hi
          injection hi with hi
          injection hi with _ e
          exact h28 e.symm
        rw [Below.heap_setCell _ _ _ _ n2, Below.heap_setCell _ _ _ _ n1]
    · rw [if_neg hs] at h
      simp only [Option.some.injEq, Prod.mk.injEq] at h
      obtain ⟨rfl, rfl, rfl⟩ := h
      have hsb : decide ((l.length : Int) < a0) = false := decide_eq_false hs
      have hne : g ≠ g + 1 := by omega
      have HC := Aside0.mk hC
      have HH := Aside0.mk hlc
      have HL := Aside0.mk hl
      have HBL := Aside0.mk hb
      have HA := Aside0.mk ha
      have HS := Aside0.mk hs
      clear hC hlc hl hb ha hs
      go_enter Try.func33, Try.ntmps33
      go_wp2
      go_loopg [5, 12] a0.toNat (fun kq v5 v12 w' => ∃ (n : Int) (i : Nat), v5 = .int .i64 n ∧ v12 = .int .i64 (i : Int) ∧ Aside0 (i + kq = a0.toNat) ∧ Aside0 (nextN l kq i n = nextN l a0.toNat 0 0) ∧ w' = w)
      case atStart => exact ⟨0, 0, by simp, by simp, ⟨by omega⟩, ⟨rfl⟩, rfl⟩
      case round =>
        obtain ⟨n, i, rfl, rfl, HK, HN, rfl⟩ := hrel
        obtain ⟨ha0, ha8⟩ := HA.out
        cases gk with
        | zero =>
          have hK := HK.out
          have hn : n = nextN l a0.toNat 0 0 := HN.out
          have hcb : decide ((i : Int) < a0) = false := decide_eq_false (by omega)
          have hs := HS.out
          have p1 : decide (0 ≤ a0) = true := decide_eq_true ha0
          have p2 : decide (a0 ≤ (l.length : Int)) = true := decide_eq_true (by omega)
          have hb := HBL.out
          have hlen : (B.drop (I + a0).toNat) = l.drop a0.toNat := by
            rw [← HL.out, List.drop_drop]
            congr 1
            omega
          have hlen2 : (l.drop a0.toNat).length = l.length - a0.toNat := List.length_drop
          have hlc := HH.out
          have hC := HC.out
          have fin : ∀ (A' : Option Addr) (c' : Nat), l.length - a0.toNat ≤ c' → Kd.C (Kd.int .u8) w0 A' (l.drop a0.toNat).length (l.drop a0.toNat) → IsN w0 (wr.setCell ⟨g + 1, 0, none⟩ (.slice A' (l.length - a0.toNat) c')) g B (I + a0) S ∧ Below w0.heap.size w0 (wr.setCell ⟨g + 1, 0, none⟩ (.slice A' (l.length - a0.toNat) c')) ∧ KeepN wr (wr.setCell ⟨g + 1, 0, none⟩ (.slice A' (l.length - a0.toNat) c')) := by
            intro A' c' hc' hC'
            refine ⟨⟨A', c', ⟨?_, ?_⟩, hg, by omega, by rw [hlen, hlen2]; exact hc', by rw [hlen]; exact hC'⟩, bS hB (Nat.le_succ_of_le hg), ?_⟩
            · rw [hlen, hlen2]
              simpa using blk_set hb.1 0 (.slice A' (l.length - a0.toNat) c')
            · exact blk_far hb.2 (p := ⟨g + 1, 0, none⟩) (show g ≠ g + 1 by omega) _
            · refine ⟨by simp, fun j cs t fr hi h4 h28 => ?_⟩
              have n2 : j ≠ g + 1 := by
                rintro rfl
                rw [hb.1] at hi
                injection hi with hi
                injection hi with _ e
                exact h28 e.symm
              rw [Below.heap_setCell _ _ _ _ n2]
          clear HK HN
          go_wp2
          · go_ret
            refine ⟨rfl, fin _ _ (by omega) ?_⟩
            have : l.drop a0.toNat = [] := List.drop_eq_nil_of_le (by omega)
            rw [this]
            exact ⟨rfl, by simp, fun h => absurd h (by simp)⟩
          · go_ret
            refine ⟨rfl, fin _ _ (by omega) ?_⟩
            exact C_drop hC (by omega)
        | succ k1 =>
          have hK := HK.out
          have hcb : decide ((i : Int) < a0) = true := decide_eq_true (by omega)
          have hs := HS.out
          have hi0 : (0 : Int) ≤ (i : Int) := by omega
          have hi1 : (i : Int) < (l.length : Int) := by omega
          have b1 : decide ((i : Int) < (l.length : Int)) = true := decide_eq_true hi1
          have b0 : decide ((0 : Int) ≤ (i : Int)) = true := decide_eq_true hi0
          obtain ⟨ad, eA, hx⟩ := Kd.at_int (Kd.C_below HC.out hB) (i : Int) hi0 hi1
          cases eA
          rw [Int.toNat_natCast] at hx
          have e8 : wrap64 (8 * (i : Int)) = ((8 * i : Nat) : Int) := by
            rw [IntWalk.wrap64_in _ ⟨by omega, by omega⟩]; omega
          have e1 : wrap64 ((i : Int) + 1) = ((i + 1 : Nat) : Int) := by
            rw [IntWalk.wrap64_in _ ⟨by omega, by omega⟩]; omega
          go_wp2
          go_roundg k1
          case measure => omega
          case rel => exact ⟨_, i + 1, rfl, by simp, ⟨by omega⟩, ⟨HN.out⟩, rfl⟩
  · rw [if_neg ha] at h
    exact absurd h (by simp)
/-! ### a call of a closure in a region that draws its order -/
theorem goesC_ {P : Program} {ops : Array Oper} {Q : Exit → Act → World → Prop} {oi : Oper} {N : Option Tmp} {a : Act} {w : World} {K : Act → World → Prop} {f : FuncId} {fn : Func} {asx : Array Operand} {ts : Array TypeId} {o : Operand} {caps : Array Value} (hf : P.funcs[f]? = some fn) (hname : (fn.name == "runtime.NumGoroutine") = false) (hb : fn.body.isSome = true) (args : Array Value)
    (hw : Region.wanted oi (yielded ops a.tmps) = true) (hN : oi.dst = N) (hop : oi.op = .call { callee := .value o, args := asx, argTypes := ts }) (ho : a.eval o = .func (.func f) #[] caps) (hargs : asx.map a.eval ++ caps = args)
    (h : Calls P f args w fun e w' => ∃ v, e = .returned v ∧ K (a.put N v) w') : if Region.wanted oi (yielded ops a.tmps) = true then Oper.wp P oi a w K Q else K (a.put N undef) w := by
  refine call_ f args hw hN ?_ h
  have he := enters_ hf hname hb args w
  unfold execOp
  simp [hop, resolve, ho, Deferred.ofValue, invoke, hargs, he]
/-! ### where Decode makes the closure -/
theorem gen_two {P : Program} {ops : Array Oper} {Q : Exit → Act → World → Prop} {rest : List Oper} {a : Act} {W : World} {o1 o2 : Obj}
    (h : ∀ w1, w1.heap[W.heap.size]? = some o1 → w1.heap[W.heap.size + 1]? = some o2 → Below W.heap.size W w1 → wpList P ops Q rest a w1) : wpList P ops Q rest a ((W.alloc o1).alloc o2) := by
  refine h _ ?_ ?_ (bA (bA (Below.refl _ _) _) _)
  · have h1 := blk_new W o1
    exact ((bA (Below.refl _ _) o2 : Below (W.alloc o1).heap.size (W.alloc o1) ((W.alloc o1).alloc o2)).block _ (by simp)).trans h1
  · have := blk_new (W.alloc o1) o2
    simpa using this
theorem isN_a {w w5 : World} {g c : Nat} {A : Option Addr} {l0 : List Int} (h : (l0.length : Int) < 3) (hb1 : w5.heap[g]? = some (.cells #[.bool true] 4 (0, 0))) (hb2 : w5.heap[g + 1]? = some (.cells #[.slice A 0 c] 28 (0, 0))) (hg : w.heap.size ≤ g) : IsN w w5 g l0 (startI l0) (startS l0) := by
  unfold startI startS
  rw [if_pos h, if_pos h]
  have hd : l0.drop (l0.length : Int).toNat = [] := by simp
  refine ⟨A, c, ⟨by rw [hd]; exact hb2, hb1⟩, hg, by omega, by rw [hd]; exact Nat.zero_le _, ?_⟩
  rw [hd]
  exact ⟨rfl, by simp, fun h => absurd h (by simp)⟩
theorem isN_b {w w5 : World} {g c : Nat} {A : Option Addr} {l0 : List Int} {b : Bool} (h : ¬ (l0.length : Int) < 3) (hb1 : w5.heap[g]? = some (.cells #[.bool b] 4 (0, 0))) (hb : b = ((strOfNums (l0.take 3)).toList != ([83, 77, 49] : List UInt8))) (hb2 : w5.heap[g + 1]? = some (.cells #[.slice A (l0.length - 3) c] 28 (0, 0))) (hc : l0.length - 3 ≤ c) (hC : l0.length - 3 = 0 ∨ Kd.C (Kd.int .u8) w A (l0.drop 3).length (l0.drop 3)) (hg : w.heap.size ≤ g) : IsN w w5 g l0 (startI l0) (startS l0) := by
  unfold startI startS
  rw [if_neg h, if_neg h]
  have hd : (l0.drop (3 : Int).toNat).length = l0.length - 3 := by simp
  refine ⟨A, c, ⟨by rw [hd]; exact hb2, by rw [← hb]; exact hb1⟩, hg, by omega, by rw [hd]; exact hc, ?_⟩
  rcases hC with h0 | hC
  · have hn : l0.drop (3 : Int).toNat = [] := List.drop_eq_nil_of_le (by simp; omega)
    rw [hn]
    exact ⟨rfl, by simp, fun h => absurd h (by simp)⟩
  · exact hC
theorem C_take {w : World} {A : Option Addr} {l : List Int} {m : Nat} (h : Kd.C (Kd.int .u8) w A l.length l) (hm : m ≤ l.length) (h0 : 0 < m) : Kd.C (Kd.int .u8) w A (l.take m).length (l.take m) := by
  obtain ⟨_, h1, h2⟩ := h
  refine ⟨rfl, by rw [List.length_take]; omega, fun hp => ?_⟩
  obtain ⟨ad, rfl, hc⟩ := h2 (by omega)
  refine ⟨ad, rfl, fun j p hj => ?_⟩
  have hjm : j < m := by
    have := (List.getElem?_eq_some_iff.1 hj).1
    rw [List.length_take] at this; omega
  rw [List.getElem?_take_of_lt hjm] at hj
  exact hc j p hj
theorem cutN (A : Option Addr) (n c m : Nat) (hm : m ≤ n) (hc : n ≤ c) : ∃ A' : Option Addr, (∀ W : World, (Instr.slice 28 (.slice A n c) (some (.int .i64 (m : Int))) none none).run Try.prog W = .ok (.slice A' (n - m) (c - m)) W) ∧
    ∀ (w : World) (l : List Int), Kd.C (Kd.int .u8) w A n l → Kd.C (Kd.int .u8) w A' (l.drop m).length (l.drop m) := by
  obtain ⟨i, hi, hz⟩ := Option.map_eq_some_iff.1 info5
  simp only [Prod.mk.injEq] at hz
  obtain ⟨A', h1, h2⟩ := print_cut (P := Try.prog) 28 5 .i64 Try.underlying28 hi hz.2.1 A n c m hm
  refine ⟨A', h1, fun w l h => ?_⟩
  have hl : l.length = n := h.1
  have h3 := h2 w .u8 l hc (show ReadsInt w .u8 A n l from Kd.reads_of_C (d := (0 : Int)) h)
  rw [List.length_drop, hl]
  exact Kd.C_of_reads (d := (0 : Int)) h3
theorem add3 : (fun x : Addr => x.add 3) = fun x : Addr => ({ block := x.block, off := x.off + 3 } : Addr) := by
  funext x
  unfold Addr.add
  simp
end Go.Proofs.Ytadbiogchgglpaa.Q
