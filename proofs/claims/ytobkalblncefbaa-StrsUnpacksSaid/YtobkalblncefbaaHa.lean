import Derived.Test.YtobkalblncefbaaQx0
import Derived.Maps.OwnOps
namespace Go.Proofs.Ytobkalblncefbaa.Q
open Go.RowKit Go.Proofs.YtobkalblncefbaaW.PrintWords Go.Proofs.YtobkalblncefbaaW.PrintLast Go.Proofs.YtobkalblncefbaaW.PrintMore
set_option linter.unusedVariables false
set_option linter.unusedSimpArgs false

/-- Both maps' blocks and rows of numbers. -/
def digs : Array Value := #[.int .u8 48, .int .u8 49, .int .u8 50, .int .u8 51, .int .u8 52, .int .u8 53, .int .u8 54, .int .u8 55, .int .u8 56, .int .u8 57, .int .u8 97, .int .u8 98, .int .u8 99, .int .u8 100, .int .u8 101, .int .u8 102]
def sgns : Array MapEntry := #[⟨.int .u8 110, .int .u8 10, 0⟩, ⟨.int .u8 34, .int .u8 34, 1⟩, ⟨.int .u8 92, .int .u8 92, 2⟩]

theorem strs_sixteen.calls (w : World) :
    Calls Try.prog 25 #[] w fun e w' => e = .returned (.agg digs) ∧ w.alloc (.cells digs 38) = w' := by
  go_enter Try.func25, Try.ntmps25
  go_wp2
  exact bodyPost_ret (v := .agg digs) (by simp [results, Try.results25, go_sem, digs]) rfl ⟨rfl, rfl⟩

theorem set_last (w : World) (o o' : Obj) : ({ w.alloc o with heap := (w.alloc o).heap.setIfInBounds w.heap.size o' } : World) = w.alloc o' := by
  have e : (w.alloc o).heap = w.heap.push o := rfl
  have h : (w.heap.push o).setIfInBounds w.heap.size o' = w.heap.push o' := by
    apply Array.ext
    · simp
    · intro i h1 h2
      have h3 : i < w.heap.size + 1 := by simpa using h2
      rw [Array.getElem_push]
      by_cases hi : i < w.heap.size
      · rw [dif_pos hi, Array.getElem_setIfInBounds_ne (by simp; omega) (by omega), Array.getElem_push, dif_pos hi]
      · obtain rfl : i = w.heap.size := by omega
        rw [dif_neg hi]
        simp
  rw [e, h]
  rfl

theorem run_insert_u8 (w : World) (es : Array MapEntry) (c : Nat) (k v : Int) (hf : Instr.findNow (.int .u8) (.int .u8 k) es.toList 0 = some none) :
    (Instr.mapUpdate 47 (.map (some w.heap.size)) (.int .u8 k) (.int .u8 v)).run Try.prog (w.alloc (.map es c)) = .ok () (w.alloc (.map (es.push ⟨.int .u8 k, .int .u8 v, c⟩) (c + 1))) := by
  have hb := (MapKept.heap_alloc w (.map es c)).1
  have hk : (Instr.findKey 5 (.int .u8 k) es.toList).run Try.prog (w.alloc (.map es c)) = .ok none (w.alloc (.map es c)) := by
    simp [Instr.findKey, run_underlying Try.underlying5, hf, Result.andThen]
  have hc := MapKept.run_checkKey (P := Try.prog) (w := w.alloc (.map es c)) (kt := 5) (k := .int .u8 k) Try.underlying5 (by simp [MapKept.IsKey]) false 9999
  simp only [Instr.mapUpdate, Sem.run_bind, run_underlying Try.underlying47, Result.andThen, MapKept.run_getObj_map hb, hc, hk, MapKept.run_setObj_map _ hb, set_last]

theorem strs_signs.calls (w : World) :
    Calls Try.prog 30 #[] w fun e w' => e = .returned (.map (some w.heap.size)) ∧ w.alloc (.map sgns 3) = w' := by
  have hmm := @run_makeMap Try.prog
  have h1 := run_insert_u8 w #[] 0 110 10 rfl
  have h2 := run_insert_u8 w (#[].push ⟨.int .u8 110, .int .u8 10, 0⟩) (0 + 1) 34 34 (by simp [Instr.findNow, Instr.sameNow])
  have h3 := run_insert_u8 w ((#[].push ⟨.int .u8 110, .int .u8 10, 0⟩).push ⟨.int .u8 34, .int .u8 34, 0 + 1⟩) (0 + 1 + 1) 92 92 (by simp [Instr.findNow, Instr.sameNow])
  simp only [List.push_toArray, List.nil_append, List.cons_append, Nat.reduceAdd] at h1 h2 h3
  go_enter Try.func30, Try.ntmps30
  go_wp2
  go_ret
  exact ⟨rfl, rfl⟩

theorem run_lookup_signs (W : World) (b : Nat) (hb : W.heap[b]? = some (.map sgns 3)) (c : Int) :
    (Instr.lookup 47 (.map (some b)) (.int .u8 c) true).run Try.prog W =
      .ok (.tuple #[.int .u8 (if c = 110 then 10 else if c = 34 then 34 else if c = 92 then 92 else 0), .bool (decide (c = 110 ∨ c = 34 ∨ c = 92))]) W := by
  have hc : ∀ e, (Instr.checkKey e 10000 5 (.int .u8 c)).run Try.prog W = .ok () W := fun e => MapKept.run_checkKey (P := Try.prog) (w := W) (kt := 5) (k := .int .u8 c) Try.underlying5 (by simp [MapKept.IsKey]) e 9999
  have hf : Instr.findNow (.int .u8) (.int .u8 c) sgns.toList 0 = some (if c = 110 then some (0, .int .u8 10) else if c = 34 then some (1, .int .u8 34) else if c = 92 then some (2, .int .u8 92) else none) := by
    by_cases h1 : c = 110
    · simp [h1, sgns, Instr.findNow, Instr.sameNow]
    · by_cases h2 : c = 34
      · simp [h2, sgns, Instr.findNow, Instr.sameNow]
      · by_cases h3 : c = 92
        · simp [h3, sgns, Instr.findNow, Instr.sameNow]
        · have e1 : (c == 110) = false := by simpa using h1
          have e2 : (c == 34) = false := by simpa using h2
          have e3 : (c == 92) = false := by simpa using h3
          simp [h1, h2, h3, sgns, Instr.findNow, Instr.sameNow, e1, e2, e3]
  have hz : (zeroValue 5).run Try.prog W = .ok (.int .u8 0) W := by kernel_rfl
  have hk : (Instr.findKey 5 (.int .u8 c) sgns.toList).run Try.prog W = .ok (if c = 110 then some (0, .int .u8 10) else if c = 34 then some (1, .int .u8 34) else if c = 92 then some (2, .int .u8 92) else none) W := by
    simp [Instr.findKey, run_underlying Try.underlying5, hf, Result.andThen]
  clear hf
  by_cases h1 : c = 110
  · simp [Instr.lookup, run_underlying Try.underlying47, Result.andThen, MapKept.run_getObj_map hb, hc, hk]
    simp [h1]
  · by_cases h2 : c = 34
    · simp [Instr.lookup, run_underlying Try.underlying47, Result.andThen, MapKept.run_getObj_map hb, hc, hk]
      simp [h2]
    · by_cases h3 : c = 92
      · simp [Instr.lookup, run_underlying Try.underlying47, Result.andThen, MapKept.run_getObj_map hb, hc, hk]
        simp [h3]
      · simp [Instr.lookup, run_underlying Try.underlying47, Result.andThen, MapKept.run_getObj_map hb, hc, hk, h1, h2, h3, hz]
end Go.Proofs.Ytobkalblncefbaa.Q
