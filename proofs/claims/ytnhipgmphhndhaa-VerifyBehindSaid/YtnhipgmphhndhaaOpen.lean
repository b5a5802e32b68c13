import Derived.Test.YtnhipgmphhndhaaQx0
import Derived.OpenShut
import Derived.ChangeArms
import Derived.ChangeShapes
import Derived.WideShapes
namespace Go.Proofs.Ytnhipgmphhndhaa.Q
open Go.RowKit Go.ChangeShapes Go.WideShapes Go.Proofs.YtnhipgmphhndhaaW.PrintWords Go.Proofs.YtnhipgmphhndhaaW.PrintLast Go.Proofs.YtnhipgmphhndhaaW.PrintMore
set_option linter.unusedVariables false
set_option linter.unusedSectionVars false
set_option maxRecDepth 100000
section
variable {H : Type} {enc : TypeId × Value → H} {W : World} {spare : Nat → Bool}
/-- Cells that are read as a value of type t. -/
def Tr (enc : TypeId × Value → H) (W : World) (spare : Nat → Bool) (t : Nat) (cs : List Value) : Prop := ∃ fuel x, DataW.trod enc Try.prog W 0 spare true fuel t cs = some x
theorem Tr.int {t : Nat} {k : IntKind} {cs : List Value} (ht : Try.prog.underlying t = some (.int k)) (h : Tr enc W spare t cs) : ∃ n, cs = [.int k n] := by
  obtain ⟨f, x, h⟩ := h
  obtain ⟨n, e, _⟩ := DataW.trod_int ht h
  exact ⟨n, e⟩
theorem Tr.str {t : Nat} {cs : List Value} (ht : Try.prog.underlying t = some .string) (h : Tr enc W spare t cs) : ∃ s, cs = [.string s] := by
  obtain ⟨f, x, h⟩ := h
  obtain ⟨n, e, _⟩ := DataW.trod_string ht h
  exact ⟨n, e⟩
theorem Tr.struct {t : Nat} {fs : Array Field} {cs : List Value} (ht : Try.prog.underlying t = some (.struct fs)) (h : Tr enc W spare t cs) :
    cs.length = Try.prog.cellsOf t ∧ ∀ (i : Nat) (f : Field), fs[i]? = some f → Tr enc W spare f.type ((cs.drop f.offset).take (Try.prog.cellsOf f.type)) := by
  obtain ⟨fu, x, h⟩ := h
  obtain ⟨xs, n, _, _, hl, hx, hf⟩ := DataW.trod_struct ht h
  refine ⟨hl, fun i f hi => ?_⟩
  have hlt : i < fs.size := by
    rcases Array.getElem?_eq_some_iff.1 hi with ⟨h1, _⟩
    exact h1
  have := hf i f hi
  rw [List.getElem?_eq_getElem (by omega)] at this
  exact ⟨n, _, this⟩
theorem Tr.slice {α : Type} (d : Kd α) {t e : Nat} {cs : List Value} (ht : Try.prog.underlying t = some (.slice e)) (hsz : Try.prog.cellsOf e = d.sz)
    (hel : ∀ c, Tr enc W spare e c → ∃ x, d.K W x c) (h : Tr enc W spare t cs) : ∃ A c, ∃ xs : List α, cs = [.slice A xs.length c] ∧ xs.length ≤ c ∧ d.C W A xs.length xs := by
  obtain ⟨fu, x, h⟩ := h
  rcases DataW.trod_slice ht h with ⟨rfl, _⟩ | ⟨a, len, cap, elems, rest, n, _, rfl, _, _, hlc, hcm, hlen, hel2, _⟩
  · exact ⟨none, 0, [], rfl, Nat.le_refl _, rfl, by simp, fun h => absurd h (by simp)⟩
  · have each : ∀ i : Fin len, ∃ x c, W.cells? 0 (a.add (i.val * d.sz)) d.sz = some c ∧ d.K W x c := by
      intro i
      have hi := hel2 i.val i.isLt
      rw [List.getElem?_eq_getElem (by omega), Option.bind_eq_some_iff] at hi
      obtain ⟨c, hc, ht⟩ := hi
      obtain ⟨x, hx⟩ := hel c ⟨_, _, ht⟩
      rw [hsz] at hc
      exact ⟨x, c, hc, hx⟩
    let f : Fin len → α := fun i => (each i).choose
    have hf : ∀ i, ∃ c, W.cells? 0 (a.add (i.val * d.sz)) d.sz = some c ∧ d.K W (f i) c := fun i => (each i).choose_spec
    have hlx : (List.ofFn f).length = len := by simp
    refine ⟨some a, cap, List.ofFn f, by rw [hlx], by rw [hlx]; exact hlc, rfl, by rw [hlx]; have := hcm; simp only [maxLen] at this; omega, fun _ => ⟨a, rfl, fun j p hj => ?_⟩⟩
    obtain ⟨hjl, hjp⟩ := List.getElem?_eq_some_iff.1 hj
    rw [hlx] at hjl
    have e : p = f ⟨j, hjl⟩ := by rw [← hjp]; simp
    obtain ⟨c, hc, hK⟩ := hf ⟨j, hjl⟩
    have hcs := World.cells?_some hc
    refine ⟨c, d.K_len hK, by rw [e]; exact hK, fun i u hi => ?_⟩
    have hil : i < d.sz := by
      rw [← d.K_len hK]
      exact (List.getElem?_eq_some_iff.1 hi).1
    have := hcs.2.2 i hil
    rw [Addr.add_add] at this
    rw [this, hi]
theorem Tr.instr {cs : List Value} (h : Tr enc W spare 37 cs) : ∃ x : S37, k37.K W x cs := by
  obtain ⟨hl, hf⟩ := Tr.struct Try.underlying37 h
  have hc : Try.prog.cellsOf 37 = 3 := by kernel_rfl
  have hi : Try.prog.cellsOf 3 = 1 := by kernel_rfl
  rw [hc] at hl
  match cs, hl with
  | [c0, c1, c2], _ =>
    have h0 : Tr enc W spare 3 [c0] := by
      have := hf 0 _ rfl
      simpa [hi] using this
    have h1 : Tr enc W spare 3 [c1] := by
      have := hf 1 _ rfl
      simpa [hi] using this
    have h2 : Tr enc W spare 3 [c2] := by
      have := hf 2 _ rfl
      simpa [hi] using this
    obtain ⟨n0, e0⟩ := Tr.int Try.underlying3 h0
    obtain ⟨n1, e1⟩ := Tr.int Try.underlying3 h1
    obtain ⟨n2, e2⟩ := Tr.int Try.underlying3 h2
    simp at e0 e1 e2
    subst e0 e1 e2
    exact ⟨⟨n0, n1, n2⟩, [_], [_, _], rfl, rfl, [_], [_], rfl, rfl, rfl⟩
theorem Tr.body {cs : List Value} (h : Tr enc W spare 32 cs) : ∃ x : S32, k32.K W x cs := by
  obtain ⟨hl, hf⟩ := Tr.struct Try.underlying32 h
  have hc : Try.prog.cellsOf 32 = 4 := by kernel_rfl
  have hi : Try.prog.cellsOf 3 = 1 := by kernel_rfl
  have hs : Try.prog.cellsOf 30 = 1 := by kernel_rfl
  rw [hc] at hl
  match cs, hl with
  | [c0, c1, c2, c3], _ =>
    have h0 : Tr enc W spare 3 [c0] := by
      have := hf 0 _ rfl
      simpa [hi] using this
    have h1 : Tr enc W spare 3 [c1] := by
      have := hf 1 _ rfl
      simpa [hi] using this
    have h2 : Tr enc W spare 3 [c2] := by
      have := hf 2 _ rfl
      simpa [hi] using this
    have h3 : Tr enc W spare 30 [c3] := by
      have := hf 3 _ rfl
      simpa [hi, hs] using this
    obtain ⟨n0, e0⟩ := Tr.int Try.underlying3 h0
    obtain ⟨n1, e1⟩ := Tr.int Try.underlying3 h1
    obtain ⟨n2, e2⟩ := Tr.int Try.underlying3 h2
    obtain ⟨A, c, xs, e3, l3, g3⟩ := Tr.slice k37 Try.underlying30 (by kernel_rfl) (fun _ h => Tr.instr h) h3
    simp at e0 e1 e2 e3
    subst e0 e1 e2 e3
    exact ⟨⟨n0, n1, n2, xs⟩, [_], [_, _, _], rfl, rfl, [_], [_, _], rfl, rfl, [_], [_], rfl, rfl, A, c, rfl, l3, g3⟩
/-- The code, opened. -/
theorem Tr.code {cs : List Value} (h : Tr enc W spare 26 cs) : ∃ (A0 : Option Addr) (c0 : Nat) (l0 : List S32) (A1 : Option Addr) (c1 : Nat) (l1 : List Int) (A2 : Option Addr) (c2 : Nat) (l2 : List ByteArray) (a3 : Int),
    cs = [.slice A0 l0.length c0, .slice A1 l1.length c1, .slice A2 l2.length c2, .int .i64 a3] ∧ l0.length ≤ c0 ∧ l1.length ≤ c1 ∧ l2.length ≤ c2 ∧ Kd.C k32 W A0 l0.length l0 ∧ Kd.C (Kd.int .i64) W A1 l1.length l1 ∧ Kd.C Kd.string W A2 l2.length l2 := by
  obtain ⟨hl, hf⟩ := Tr.struct Try.underlying26 h
  have hc : Try.prog.cellsOf 26 = 4 := by kernel_rfl
  have hi : Try.prog.cellsOf 3 = 1 := by kernel_rfl
  have hs0 : Try.prog.cellsOf 22 = 1 := by kernel_rfl
  have hs1 : Try.prog.cellsOf 23 = 1 := by kernel_rfl
  have hs2 : Try.prog.cellsOf 24 = 1 := by kernel_rfl
  rw [hc] at hl
  match cs, hl with
  | [v0, v1, v2, v3], _ =>
    have h0 : Tr enc W spare 22 [v0] := by
      have := hf 0 _ rfl
      simpa [hi, hs0, hs1, hs2] using this
    have h1 : Tr enc W spare 23 [v1] := by
      have := hf 1 _ rfl
      simpa [hi, hs0, hs1, hs2] using this
    have h2 : Tr enc W spare 24 [v2] := by
      have := hf 2 _ rfl
      simpa [hi, hs0, hs1, hs2] using this
    have h3 : Tr enc W spare 3 [v3] := by
      have := hf 3 _ rfl
      simpa [hi, hs0, hs1, hs2] using this
    obtain ⟨A0, c0, l0, e0, m0, g0⟩ := Tr.slice k32 Try.underlying22 (by kernel_rfl) (fun _ h => Tr.body h) h0
    obtain ⟨A1, c1, l1, e1, m1, g1⟩ := Tr.slice (Kd.int .i64) Try.underlying23 (by kernel_rfl) (fun _ h => (Tr.int Try.underlying3 h).imp fun n e => e) h1
    obtain ⟨A2, c2, l2, e2, m2, g2⟩ := Tr.slice Kd.string Try.underlying24 (by kernel_rfl) (fun _ h => (Tr.str Try.underlying9 h).imp fun n e => e) h2
    obtain ⟨n3, e3⟩ := Tr.int Try.underlying3 h3
    simp at e0 e1 e2 e3
    subst e0 e1 e2 e3
    exact ⟨A0, c0, l0, A1, c1, l1, A2, c2, l2, n3, rfl, m0, m1, m2, g0, g1, g2⟩
end
end Go.Proofs.Ytnhipgmphhndhaa.Q
