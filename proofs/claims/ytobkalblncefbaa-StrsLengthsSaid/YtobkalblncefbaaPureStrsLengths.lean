/- For every text (its first 60 bytes), Go's strs.Pack gives as many numbers as its bytes ask for, the first one its length, none below 0 or from 2^56 on: the law StrsLengths returns true. Conditions: none. -/
import Derived.Test.YtobkalblncefbaaQx21
import Derived.Test.YtobkalblncefbaaS4
namespace Go.Proofs.Ytobkalblncefbaa.Pure
open Go.RowKit Go.Proofs.Ytobkalblncefbaa.Q Go.Proofs.YtobkalblncefbaaW.PrintWords Go.Proofs.YtobkalblncefbaaW.PrintLast
theorem wd_range (a0 : ByteArray) (i : Nat) : 0 ≤ wd (bytesOf a0) i ∧ wd (bytesOf a0) i < 72057594037927936 := by
  have h := pk_range (chunk (bytesOf a0) i) (chunk_bytes (bytes_bytes a0) i)
  have hl := chunk_len (bytesOf a0) i
  unfold wd
  refine ⟨h.1, ?_⟩
  have hle : (chunk (bytesOf a0) i).length ≤ 7 := by omega
  have h2 := h.2
  generalize (chunk (bytesOf a0) i).length = n at *
  clear h hl
  have : (256 : Int) ^ n ≤ 256 ^ 7 := by
    match n, hle with
    | 0, _ | 1, _ | 2, _ | 3, _ | 4, _ | 5, _ | 6, _ | 7, _ => decide
  exact Int.lt_of_lt_of_le h2 this
theorem loop (l : List Int) (hl : l.length ≤ 1000) (h : ∀ x ∈ l, 0 ≤ x ∧ x < 72057594037927936) (d : Nat) : ∀ i, i + d = l.length → Ev (fun k => selvagelaw03_StrsLengths.l0 k l (i : Int)) true := by
  induction d with
  | zero =>
    intro i hi
    refine Ev.step (fun k => ?_) lives_end
    simp only [selvagelaw03_StrsLengths.l0]
    rw [if_neg (by omega)]
  | succ d ih =>
    intro i hi
    have hlt : i < l.length := by omega
    have hx := h (rd l (i : Int)) (by unfold rd; rw [Int.toNat_natCast, List.getD_eq_getElem?_getD, List.getElem?_eq_getElem hlt]; exact List.getElem_mem hlt)
    have e1 : wrap64 ((i : Int) + 1) = ((i + 1 : Nat) : Int) := by rw [w64 _ (by omega) (by omega)]; omega
    refine Ev.step (fun k => ?_) (ih (i + 1) (by omega))
    simp only [selvagelaw03_StrsLengths.l0]
    rw [if_pos (by omega), if_pos (by omega), if_neg (by omega), if_neg (by omega), e1]
theorem short (s : ByteArray) (hs : s.size ≤ 60) : Ev (fun k => selvagelaw03_StrsLengths.j0 k s) true := by
  refine Ev.step (f := fun k => (strs_Pack.f k s).bind fun bt186 => (if bt186.2 = 0 then (if (bt186.1.length : Int) = (wrap64 (1 + (wrap64 (Int.tdiv (wrap64 ((s.size : Int) + 6)) 7)))) then (if 0 < (bt186.1.length : Int) then (selvagelaw03_StrsLengths.j1 k bt186.1 ((rd bt186.1 0) != (s.size : Int))) else (none)) else (selvagelaw03_StrsLengths.j1 k bt186.1 true)) else (selvagelaw03_StrsLengths.j1 k bt186.1 true))) (fun k => by simp only [selvagelaw03_StrsLengths.j0]) ?_
  refine Ev.bind (pack_ev s hs) ?_
  have hl := packL_len (bytesOf s)
  rw [bytesOf_len] at hl
  have ht : Int.tdiv ((s.size : Int) + 6) 7 = (((s.size + 6) / 7 : Nat) : Int) := by rw [Int.tdiv_eq_ediv_of_nonneg (by omega)]; omega
  have hall : ∀ x ∈ packL (bytesOf s), 0 ≤ x ∧ x < 72057594037927936 := by
    intro x hx
    unfold packL at hx
    rcases List.mem_cons.1 hx with rfl | hx
    · rw [bytesOf_len]; omega
    · obtain ⟨j, _, rfl⟩ := List.mem_map.1 hx
      exact wd_range s j
  have e0 : (rd (packL (bytesOf s)) 0 != (s.size : Int)) = false := by
    unfold rd packL
    rw [bytesOf_len]
    simp
  refine Ev.congr (f := fun k => selvagelaw03_StrsLengths.j1 k (packL (bytesOf s)) false) (fun k => ?_) ?_
  · simp only
    rw [if_pos True.intro, w64 ((s.size : Int) + 6) (by omega) (by omega), ht, w64 (((s.size + 6) / 7 : Nat) : Int) (by omega) (by omega), w64 _ (by omega) (by omega), if_pos (by omega), if_pos (by omega), e0]
  · refine Ev.step (fun k => ?_) (loop _ (by omega) hall _ 0 (Nat.zero_add _))
    simp only [selvagelaw03_StrsLengths.j1]
    rw [if_neg (by simp)]
    rfl
theorem StrsLengths : selvagelaw03_StrsLengths.Pure := by
  intro s _
  apply Ev.rounds
  by_cases h : (s.size : Int) > 60
  · refine Ev.congr (fun k => ?_) (short (s.extract 0 60) (by rw [ByteArray.size_extract]; omega))
    unfold selvagelaw03_StrsLengths.f
    rw [if_pos h, if_pos (by omega), if_pos (by omega)]
  · refine Ev.congr (fun k => ?_) (short s (by omega))
    unfold selvagelaw03_StrsLengths.f
    rw [if_neg h]
end Go.Proofs.Ytobkalblncefbaa.Pure
