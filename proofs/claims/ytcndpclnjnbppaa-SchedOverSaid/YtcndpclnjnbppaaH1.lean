import Derived.Test.YtcndpclnjnbppaaQx1
import Derived.Test.YtcndpclnjnbppaaQx2
import Derived.Test.YtcndpclnjnbppaaQx3
import Derived.Test.YtcndpclnjnbppaaQx4
import Derived.Deep.RegionLaw
namespace Go.Proofs.Ytcndpclnjnbppaa.Q
open Go.RowKit Go.Proofs.YtcndpclnjnbppaaW.PrintWords Go.Proofs.YtcndpclnjnbppaaW.PrintLast Go.Proofs.YtcndpclnjnbppaaW.PrintMore
set_option linter.unusedVariables false
set_option linter.unusedSimpArgs false

/-! ### what a table answers, and has, in plain words -/
/-- Those of the first k of which p is so. -/
def ofTo (p : S54 → Bool) (l : List S54) (k : Nat) : List Int := ((List.range k).filter (fun i : Nat => p (l.getD i z54))).map (fun i : Nat => (i : Int))
def tOf (p : S54 → Bool) (l : List S54) : List Int := ofTo p l l.length
theorem ofTo_succ (p : S54 → Bool) (l : List S54) (k : Nat) : ofTo p l (k + 1) = ofTo p l k ++ (if p (l.getD k z54) then [(k : Int)] else []) := by
  unfold ofTo
  rw [List.range_succ, List.filter_append, List.map_append]
  congr 1
  rw [List.filter_cons, List.filter_nil]
  split <;> rfl
theorem ofTo_len (p : S54 → Bool) (l : List S54) (k : Nat) : (ofTo p l k).length ≤ k := by
  unfold ofTo
  rw [List.length_map]
  exact Nat.le_trans (List.length_filter_le _ _) (by simp)
def isReady (x : S54) : Bool := x.f0 == 0
def isWaits (x : S54) : Bool := x.f0 == 1
def waitsFor (v : Int) (x : S54) : Bool := (x.f0 == 1) && x.f1.contains v
def tReady (l : List S54) : List Int := tOf isReady l
/-- Of a kind. -/
def tIs (l : List S54) (n k : Int) : Bool := decide (0 ≤ n) && (decide (n < (l.length : Int)) && ((rd_T54 l n).f0 == k))
def addL (l : List S54) : List S54 := if l.length < 8 then l ++ [z54] else l
def addR (l : List S54) : Int × Int := if l.length < 8 then ((l.length : Int), 0) else (0, 16)
def waitL (l : List S54) (n : Int) (vs : List Int) : List S54 := if tIs l n 0 then l.set n.toNat ⟨1, vs⟩ else l
def waitR (l : List S54) (n : Int) : Int := if tIs l n 0 then 0 else 1
def endL (l : List S54) (n : Int) : List S54 := if tIs l n 0 || tIs l n 1 then l.set n.toNat ⟨2, []⟩ else l
def endR (l : List S54) (n : Int) : Int := if tIs l n 0 || tIs l n 1 then 0 else 1
def wakeL (l : List S54) (v : Int) : List S54 := l.map (fun x => if waitsFor v x then z54 else x)
def wakeR (l : List S54) (v : Int) : List Int := tOf (waitsFor v) l
def statusR (l : List S54) : Int := if tReady l = [] then (if l.any isWaits then 2 else 1) else 0
def absK (k : Int) : Int := if k < 0 then -(k + 1) else k
def pickR (l : List S54) (k : Int) : Int × Bool := if tReady l = [] then (0, false) else (rd (tReady l) (Int.tmod (absK k) (tReady l).length), true)
/-- A thread: of one of three kinds, not too many vars. -/
def OkX (x : S54) : Prop := (x.f0 = 0 ∨ x.f0 = 1 ∨ x.f0 = 2) ∧ x.f1.length ≤ 1000
theorem OkX.z : OkX z54 := ⟨.inl rfl, by simp [z54]⟩
/-- A table: not more than eight threads. -/
def Good (l : List S54) : Prop := l.length ≤ 8 ∧ ∀ x ∈ l, OkX x
theorem Good.nil : Good [] := ⟨by simp, by simp⟩
theorem Good.get {l : List S54} (h : Good l) (i : Int) : OkX (rd_T54 l i) := by
  unfold rd_T54
  rw [List.getD_eq_getElem?_getD]
  by_cases hi : i.toNat < l.length
  · rw [List.getElem?_eq_getElem hi]
    exact h.2 _ (List.getElem_mem hi)
  · rw [List.getElem?_eq_none (by omega)]
    exact OkX.z
theorem Good.set {l : List S54} (h : Good l) (i : Nat) (x : S54) (hx : OkX x) : Good (l.set i x) := by
  refine ⟨by rw [List.length_set]; exact h.1, fun y hy => ?_⟩
  rcases List.mem_or_eq_of_mem_set hy with hy | rfl
  · exact h.2 y hy
  · exact hx
theorem Good.addL {l : List S54} (h : Good l) : Good (addL l) := by
  unfold Q.addL
  split
  · refine ⟨by rw [List.length_append, List.length_singleton]; omega, fun x hx => ?_⟩
    rcases List.mem_append.1 hx with hx | hx
    · exact h.2 x hx
    · rw [List.mem_singleton.1 hx]; exact OkX.z
  · exact h
theorem Good.waitL {l : List S54} (h : Good l) (n : Int) (vs : List Int) (hv : vs.length ≤ 1000) : Good (waitL l n vs) := by
  unfold Q.waitL
  split
  · exact h.set _ _ ⟨.inr (.inl rfl), hv⟩
  · exact h
theorem Good.endL {l : List S54} (h : Good l) (n : Int) : Good (endL l n) := by
  unfold Q.endL
  split
  · exact h.set _ _ ⟨.inr (.inr rfl), by simp⟩
  · exact h
theorem Good.wakeL {l : List S54} (h : Good l) (v : Int) : Good (wakeL l v) := by
  unfold Q.wakeL
  refine ⟨by rw [List.length_map]; exact h.1, fun x hx => ?_⟩
  obtain ⟨y, hy, rfl⟩ := List.mem_map.1 hx
  show OkX (if waitsFor v y = true then z54 else y)
  split
  · exact OkX.z
  · exact h.2 y hy
/-- Waking one by one. -/
def setAll (l : List S54) (ns : List Int) : List S54 := ns.foldl (fun l n => l.set n.toNat z54) l
theorem setAll_snoc (l : List S54) (ns : List Int) (n : Int) : setAll l (ns ++ [n]) = (setAll l ns).set n.toNat z54 := by
  unfold setAll
  rw [List.foldl_append]
  rfl
theorem setAll_length (l : List S54) (ns : List Int) : (setAll l ns).length = l.length := by
  unfold setAll
  induction ns generalizing l with
  | nil => rfl
  | cons n ns ih => rw [List.foldl_cons, ih, List.length_set]
theorem setAll_get (l : List S54) (ns : List Int) (hn : ∀ n ∈ ns, 0 ≤ n) (i : Nat) (hi : i < l.length) : (setAll l ns)[i]? = if (i : Int) ∈ ns then some z54 else l[i]? := by
  unfold setAll
  induction ns generalizing l with
  | nil => simp
  | cons n ns ih =>
    rw [List.foldl_cons, ih _ (fun m hm => hn m (List.mem_cons_of_mem _ hm)) (by rw [List.length_set]; exact hi)]
    have h0 := hn n List.mem_cons_self
    by_cases h1 : (i : Int) ∈ ns
    · rw [if_pos h1, if_pos (List.mem_cons_of_mem _ h1)]
    · rw [if_neg h1]
      by_cases h2 : n.toNat = i
      · rw [if_pos (by rw [show (i : Int) = n by omega]; exact List.mem_cons_self), h2, List.getElem?_set_self hi]
      · rw [List.getElem?_set_ne h2, if_neg (by
          intro h3
          rcases List.mem_cons.1 h3 with h3 | h3
          · omega
          · exact h1 h3)]
theorem mem_tOf (p : S54 → Bool) (l : List S54) (n : Int) : n ∈ tOf p l ↔ 0 ≤ n ∧ n < (l.length : Int) ∧ p (l.getD n.toNat z54) = true := by
  unfold tOf ofTo
  rw [List.mem_map]
  constructor
  · rintro ⟨i, hi, rfl⟩
    rw [List.mem_filter, List.mem_range] at hi
    exact ⟨by omega, by omega, by simpa using hi.2⟩
  · rintro ⟨h0, h1, h2⟩
    exact ⟨n.toNat, by rw [List.mem_filter, List.mem_range]; exact ⟨by omega, h2⟩, by omega⟩
theorem setAll_wake (l : List S54) (v : Int) : setAll l (wakeR l v) = wakeL l v := by
  apply List.ext_getElem?
  intro i
  by_cases hi : i < l.length
  · unfold wakeL wakeR
    rw [setAll_get l (tOf (waitsFor v) l) (fun n hn => ((mem_tOf _ _ _).1 hn).1) i hi]
    rw [List.getElem?_map, List.getElem?_eq_getElem hi]
    simp only [Option.map_some]
    have e : (i : Int) ∈ tOf (waitsFor v) l ↔ waitsFor v l[i] = true := by
      rw [mem_tOf]
      rw [List.getD_eq_getElem?_getD, Int.toNat_natCast, List.getElem?_eq_getElem hi]
      exact ⟨fun h => h.2.2, fun h => ⟨by omega, by omega, h⟩⟩
    by_cases hw : waitsFor v l[i] = true
    · rw [if_pos (e.2 hw), if_pos hw]
    · rw [if_neg (fun h => hw (e.1 h)), if_neg hw]
  · rw [List.getElem?_eq_none (by rw [setAll_length]; omega), List.getElem?_eq_none (by unfold wakeL; rw [List.length_map]; omega)]

/-! ### the tables in memory -/
/-- All blocks but those of these two types stay. -/
def KeepE (a b : Nat) (w w1 : World) : Prop := w.heap.size ≤ w1.heap.size ∧ ∀ (i : Nat) (cs : Array Value) (t : Nat) (fr : Nat × Nat), w.heap[i]? = some (Obj.cells cs t fr) → t ≠ a → t ≠ b → w1.heap[i]? = w.heap[i]?
theorem KeepE.refl {a b : Nat} (w : World) : KeepE a b w w := ⟨Nat.le_refl _, fun _ _ _ _ _ _ _ => rfl⟩
theorem KeepE.trans {a b : Nat} {w w1 w2 : World} (h : KeepE a b w w1) (k : KeepE a b w1 w2) : KeepE a b w w2 :=
  ⟨Nat.le_trans h.1 k.1, fun i cs t fr hi h1 h2 => by
    have e := h.2 i cs t fr hi h1 h2
    rw [k.2 i cs t fr (e.trans hi) h1 h2, e]⟩
theorem KeepE.of_below {a b : Nat} {w w1 : World} (h : Below w.heap.size w w1) : KeepE a b w w1 := ⟨h.size, fun i cs t fr hi _ _ => h.block i (blk_lt hi)⟩
theorem KeepE.below {a b : Nat} {w w1 w2 : World} (h : KeepE a b w w1) (k : Below w1.heap.size w1 w2) : KeepE a b w w2 := h.trans (.of_below k)
theorem KeepE.drew {a b : Nat} {w w1 : World} (h : KeepE a b w w1) : KeepE a b w w1.drew := h
theorem KeepE.drewN {a b : Nat} {w w1 : World} (h : KeepE a b w w1) (n : Nat) : KeepE a b w (w1.drewN n) := h
/-- A write into a block of one of these types. -/
theorem KeepE.grown {a b : Nat} {w w1 : World} {row : Option Nat} (hg : w.grownBy w1 row) (hr : ∀ k, row = some k → ∃ cs, w.heap[k]? = some (.cells cs a (0, 0)) ∨ w.heap[k]? = some (.cells cs b (0, 0))) : KeepE a b w w1 := by
  refine ⟨hg.size, fun i cs t fr hi h1 h2 => hg.block i (blk_lt hi) ?_⟩
  intro he
  obtain ⟨cs', h | h⟩ := hr i he.symm
  · rw [h] at hi
    injection hi with hi
    injection hi with _ e
    exact h1 e.symm
  · rw [h] at hi
    injection hi with hi
    injection hi with _ e
    exact h2 e.symm
theorem KeepE.setCell {a b : Nat} {w : World} {p : Addr} {cs : Array Value} (hb : w.heap[p.block]? = some (.cells cs a (0, 0)) ∨ w.heap[p.block]? = some (.cells cs b (0, 0))) (u : Value) : KeepE a b w (w.setCell p u) := by
  refine ⟨by simp, fun i cs' t fr hi h1 h2 => Below.heap_setCell w p u i ?_⟩
  rintro rfl
  rcases hb with h | h
  · rw [h] at hi
    injection hi with hi
    injection hi with _ e
    exact h1 e.symm
  · rw [h] at hi
    injection hi with hi
    injection hi with _ e
    exact h2 e.symm
section
variable {α : Type} {d : Kd α} {e a b : Nat} {w w1 : World} {base : Nat} {ok : Nat → Prop} {v : Value} {xs : List α}
theorem R_keepE (h : d.R e w base ok v xs) (hk : KeepE a b w w1) (hE : ∀ q, q ∈ e :: d.E → q ≠ a ∧ q ≠ b) : d.R e w1 base ok v xs := by
  refine Kd.R_mono (Kd.R_move (Kd.R_bound h) (fun k hk2 => ?_)) (fun _ hk2 => hk2.1)
  obtain ⟨_, _, _, q, hq, cells, hc⟩ := hk2
  exact hk.2 _ _ _ _ hc (hE q hq).1 (hE q hq).2
end
/-- A table of the program. -/
def IsT (ok : Nat → Prop) (w0 W : World) (g : Nat) (l : List S54) : Prop := w0.heap.size ≤ g ∧ Good l ∧ ∃ v, W.heap[g]? = some (.cells #[v] 52 (0, 0)) ∧ k54.R 54 W w0.heap.size ok v l
def toR (x : S54) : S59 := ⟨decide (x.f0 = 2), decide (x.f0 = 1), x.f1⟩
def kR : Kd S54 := Kd.iso k59 toR
/-- A table of the document. -/
def IsR (ok : Nat → Prop) (w0 W : World) (g : Nat) (l : List S54) : Prop := w0.heap.size ≤ g ∧ Good l ∧ ∃ v, W.heap[g]? = some (.cells #[v] 38 (0, 0)) ∧ kR.R 59 W w0.heap.size ok v l
theorem IsT.keep {a b : Nat} {ok : Nat → Prop} {w0 w w1 : World} {g : Nat} {l : List S54} (h : IsT ok w0 w g l) (hk : KeepE a b w w1) (ha : 52 ≠ a ∧ 54 ≠ a ∧ 3 ≠ a) (hb : 52 ≠ b ∧ 54 ≠ b ∧ 3 ≠ b) : IsT ok w0 w1 g l := by
  obtain ⟨h0, h1, v, hv, hr⟩ := h
  refine ⟨h0, h1, v, (hk.2 g _ _ _ hv ha.1 hb.1).trans hv, R_keepE hr hk ?_⟩
  intro q hq
  have : q = 54 ∨ q = 3 := by simpa [k54, Kd.iso, Kd.pair, Kd.int, Kd.scalar, Kd.slice] using hq
  rcases this with rfl | rfl
  · exact ⟨ha.2.1, hb.2.1⟩
  · exact ⟨ha.2.2, hb.2.2⟩
theorem IsR.keep {a b : Nat} {ok : Nat → Prop} {w0 w w1 : World} {g : Nat} {l : List S54} (h : IsR ok w0 w g l) (hk : KeepE a b w w1) (ha : 38 ≠ a ∧ 59 ≠ a ∧ 3 ≠ a) (hb : 38 ≠ b ∧ 59 ≠ b ∧ 3 ≠ b) : IsR ok w0 w1 g l := by
  obtain ⟨h0, h1, v, hv, hr⟩ := h
  refine ⟨h0, h1, v, (hk.2 g _ _ _ hv ha.1 hb.1).trans hv, R_keepE hr hk ?_⟩
  intro q hq
  have : q = 59 ∨ q = 3 := by simpa [kR, k59, Kd.iso, Kd.pair, Kd.int, Kd.bool, Kd.scalar, Kd.slice] using hq
  rcases this with rfl | rfl
  · exact ⟨ha.2.1, hb.2.1⟩
  · exact ⟨ha.2.2, hb.2.2⟩
theorem IsT.below {ok : Nat → Prop} {w0 w w1 : World} {g : Nat} {l : List S54} (h : IsT ok w0 w g l) (hb : Below w.heap.size w w1) : IsT ok w0 w1 g l := h.keep (a := 0) (b := 0) (.of_below hb) (by decide) (by decide)
theorem IsR.below {ok : Nat → Prop} {w0 w w1 : World} {g : Nat} {l : List S54} (h : IsR ok w0 w g l) (hb : Below w.heap.size w w1) : IsR ok w0 w1 g l := h.keep (a := 0) (b := 0) (.of_below hb) (by decide) (by decide)
theorem IsT.overR {ok : Nat → Prop} {w0 w w1 : World} {g : Nat} {l : List S54} (h : IsT ok w0 w g l) (hk : KeepE 38 59 w w1) : IsT ok w0 w1 g l := h.keep hk (by decide) (by decide)
theorem IsR.overT {ok : Nat → Prop} {w0 w w1 : World} {g : Nat} {l : List S54} (h : IsR ok w0 w g l) (hk : KeepE 52 54 w w1) : IsR ok w0 w1 g l := h.keep hk (by decide) (by decide)
/-- What the walk reads of a table. -/
theorem IsT.open_ {ok : Nat → Prop} {w0 w : World} {g : Nat} {l : List S54} (h : IsT ok w0 w g l) : ∃ A c, w.cell? ⟨g, 0, none⟩ = some (.slice A l.length c) ∧ w.frozen? ⟨g, 0, none⟩ = false ∧ l.length ≤ c ∧ k54.C w A l.length l := by
  obtain ⟨h0, h1, v, hv, hr⟩ := h
  obtain ⟨A, c, rfl, hc, hC⟩ := Kd.R_reads hr
  exact ⟨A, c, (blk_cell hv 0).trans rfl, blk_frozen hv 0, hc, hC⟩
theorem IsR.open_ {ok : Nat → Prop} {w0 w : World} {g : Nat} {l : List S54} (h : IsR ok w0 w g l) : ∃ A c, w.cell? ⟨g, 0, none⟩ = some (.slice A l.length c) ∧ w.frozen? ⟨g, 0, none⟩ = false ∧ l.length ≤ c ∧ kR.C w A l.length l := by
  obtain ⟨h0, h1, v, hv, hr⟩ := h
  obtain ⟨A, c, rfl, hc, hC⟩ := Kd.R_reads hr
  exact ⟨A, c, (blk_cell hv 0).trans rfl, blk_frozen hv 0, hc, hC⟩
/-- An element of the document's table. -/
theorem at_R {w : World} {A : Option Addr} {n : Nat} {xs : List S54} (h : Kd.C kR w A n xs) (i : Int) (h0 : 0 ≤ i) (h1 : i < n) : ∃ ad A2 c2, A = some ad ∧ w.cell? (ad.add (i.toNat * 3)) = some (.bool (decide ((rd_T54 xs i).f0 = 2))) ∧ w.cell? ⟨(ad.add (i.toNat * 3)).block, (ad.add (i.toNat * 3)).off + 1, none⟩ = some (.bool (decide ((rd_T54 xs i).f0 = 1))) ∧ w.cell? ⟨(ad.add (i.toNat * 3)).block, (ad.add (i.toNat * 3)).off + 2, none⟩ = some (.slice A2 (rd_T54 xs i).f1.length c2) ∧ (rd_T54 xs i).f1.length ≤ c2 ∧ (Kd.int .i64).C w A2 (rd_T54 xs i).f1.length (rd_T54 xs i).f1 := by
  obtain ⟨ad, c, e, _, hK, hc0⟩ := Kd.C_get h z54 i h0 h1
  have hc : ∀ j u, c[j]? = some u → w.cell? (ad.add (i.toNat * 3 + j)) = some u := hc0
  obtain ⟨A2, c2, rfl, l2, g2⟩ := k59_open (x := toR (rd_T54 xs i)) hK
  exact ⟨ad, A2, c2, e, hc 0 _ rfl, by rw [← add_field _ _ 1 (by omega)]; exact hc 1 _ rfl, by rw [← add_field _ _ 2 (by omega)]; exact hc 2 _ rfl, l2, g2⟩
theorem info54 : (Try.prog.info? 54).map (fun i => (i.zero, i.size, i.bytes)) = some (some (.agg #[.int .i64 0, .slice none 0 0]), 2, 32) := by kernel_rfl
theorem info59 : (Try.prog.info? 59).map (fun i => (i.zero, i.size, i.bytes)) = some (some (.agg #[.bool false, .bool false, .slice none 0 0]), 3, 32) := by kernel_rfl
end Go.Proofs.Ytcndpclnjnbppaa.Q
