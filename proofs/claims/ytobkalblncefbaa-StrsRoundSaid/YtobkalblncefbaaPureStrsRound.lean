/- For every two texts (the first 150 bytes of each), what Go's strs.Pack packs is unpacked by strs.Unpack, and two strings have the same numbers just if they are the same: the law StrsRound returns true. Conditions: none. -/
import Derived.Test.YtobkalblncefbaaQx29
import Derived.Test.YtobkalblncefbaaS9
namespace Go.Proofs.Ytobkalblncefbaa.Pure
open Go.RowKit Go.Proofs.Ytobkalblncefbaa.Q Go.Proofs.YtobkalblncefbaaW.PrintWords Go.Proofs.YtobkalblncefbaaW.PrintLast
set_option linter.unusedVariables false
theorem str_bytes (s : ByteArray) : strOfNums (bytesOf s) = s := by
  apply ByteArray.ext
  unfold strOfNums bytesOf
  rw [List.map_map]
  have : (s.data.toList.map ((fun n : Int => UInt8.ofNat n.toNat) ∘ fun b => (b.toNat : Int))) = s.data.toList := by
    conv => rhs; rw [← List.map_id s.data.toList]
    apply List.map_congr_left
    intro b _
    simp
  rw [this]
theorem D_pack (L : List Int) (h : Bytes L) : D (packL L) L.length = L := by
  apply List.ext_getElem?
  intro b
  by_cases hb : b < L.length
  · rw [D_get _ _ _ hb]
    have e : rd (packL L) ((1 + b / 7 : Nat) : Int) = wd L (b / 7) := by
      unfold rd packL
      rw [Int.toNat_natCast, Nat.add_comm 1, List.getD_eq_getElem?_getD, List.getElem?_cons_succ, List.getElem?_map, List.getElem?_range (by omega)]
      rfl
    have hc : (chunk L (b / 7))[b % 7]? = L[b]? := by
      rw [chunk_get _ _ _ (by omega), show 7 * (b / 7) + b % 7 = b from by omega]
    rw [List.getElem?_eq_getElem hb] at hc ⊢
    rw [e]
    unfold wd
    rw [pk_digit _ (chunk_bytes h (b / 7)) _ _ hc]
  · rw [List.getElem?_eq_none (by rw [D_len]; omega), List.getElem?_eq_none (by omega)]
theorem pack_fits (s : ByteArray) (hs : s.size ≤ 60) : fits (packL (bytesOf s)) s.size := by
  refine ⟨hs, by rw [packL_len, bytesOf_len], ?_⟩
  unfold rd packL
  rw [bytesOf_len]
  rfl
theorem unpack_pack (s : ByteArray) (hs : s.size ≤ 60) : Ev (fun k => strs_Unpack.f k (packL (bytesOf s))) (s, 0) := by
  have h := up_ev _ _ (pack_fits s hs)
  have hd := D_pack (bytesOf s) (bytes_bytes s)
  rw [bytesOf_len] at hd
  rw [hd, if_pos rfl, str_bytes] at h
  exact h
theorem pack_inj (s t : ByteArray) (h : packL (bytesOf s) = packL (bytesOf t)) : s = t := by
  have e : s.size = t.size := by
    have h0 : rd (packL (bytesOf s)) 0 = rd (packL (bytesOf t)) 0 := by rw [h]
    unfold rd packL at h0
    rw [bytesOf_len, bytesOf_len] at h0
    simp at h0
    omega
  have hd := D_pack (bytesOf s) (bytes_bytes s)
  have hd2 := D_pack (bytesOf t) (bytes_bytes t)
  rw [bytesOf_len] at hd hd2
  rw [h, e, hd2] at hd
  rw [← str_bytes s, ← str_bytes t, hd]
theorem list_inj (s t : ByteArray) (h : s.toList = t.toList) : s = t := by
  rw [Go.ByteArray.toList_eq, Go.ByteArray.toList_eq] at h
  apply ByteArray.ext
  exact Array.toList_inj.1 h
theorem StrsRound : selvagelaw03_StrsRound.Pure := by
  intro a b _ _
  apply Ev.rounds
  unfold selvagelaw03_StrsRound.f
  simp only [few_f, Option.bind_some]
  have hs := few_size a
  have ht := few_size b
  generalize few a = s at *
  generalize few b = t at *
  have live : ∀ x5 x7 : List Int, Ev (fun k => selvagelaw03_StrsRound.j1 k s t x5 x7 false) true := fun x5 x7 => by
    refine Ev.step (fun k => ?_) lives_end
    simp only [selvagelaw03_StrsRound.j1]
    rw [if_neg (by decide)]
  by_cases h1 : s.size ≤ 60
  · by_cases h2 : t.size ≤ 60
    · refine Ev.bind (pack_ev s h1) (Ev.bind (pack_ev t h2) ?_)
      refine Ev.congr (f := fun k => (strs_Unpack.f k (packL (bytesOf s))).bind fun bt259 => (if bt259.1.toList = s.toList then (if bt259.2 = 0 then (selvagelaw03_StrsRound.j0 k s t (packL (bytesOf s)) 0 (packL (bytesOf t)) 0) else (some false)) else (some false))) (fun k => by rw [if_pos rfl]) ?_
      refine Ev.bind (unpack_pack s h1) ?_
      refine Ev.congr (f := fun k => selvagelaw03_StrsRound.j0 k s t (packL (bytesOf s)) 0 (packL (bytesOf t)) 0) (fun k => by rw [if_pos rfl, if_pos rfl]) ?_
      refine Ev.step (f := fun k => selvagelaw03_StrsRound.j1 k s t (packL (bytesOf s)) (packL (bytesOf t)) true) (fun k => ?_) ?_
      · simp only [selvagelaw03_StrsRound.j0]
        rw [if_pos (by trivial)]
        rfl
      · refine Ev.step (f := fun k => (selvageref02_SameInts.f k (packL (bytesOf s)) (packL (bytesOf t))).bind fun t261 => (if (t261 != (s.toList == t.toList)) = true then (some false) else ((selvagelaw03_lives.f k).bind fun t262 => (some t262)))) (fun k => ?_) ?_
        · simp only [selvagelaw03_StrsRound.j1]
          rw [if_pos (by trivial)]
        · refine Ev.bind (si_ev _ _ (by rw [packL_len, bytesOf_len]; omega)) ?_
          have e : decide (packL (bytesOf s) = packL (bytesOf t)) = (s.toList == t.toList) := by
            rw [Bool.eq_iff_iff, decide_eq_true_iff, beq_iff_eq]
            exact ⟨fun h => by rw [pack_inj s t h], fun h => by rw [list_inj s t h]⟩
          rw [e]
          exact Ev.congr (fun k => by rw [if_neg (by simp)]) lives_end
    · refine Ev.bind (pack_ev s h1) (Ev.bind ⟨0, fun k _ => pack_long t (by omega) k⟩ ?_)
      refine Ev.congr (f := fun k => (strs_Unpack.f k (packL (bytesOf s))).bind fun bt259 => (if bt259.1.toList = s.toList then (if bt259.2 = 0 then (selvagelaw03_StrsRound.j0 k s t (packL (bytesOf s)) 0 [] 12) else (some false)) else (some false))) (fun k => by rw [if_pos rfl]) ?_
      refine Ev.bind (unpack_pack s h1) ?_
      refine Ev.congr (f := fun k => selvagelaw03_StrsRound.j0 k s t (packL (bytesOf s)) 0 [] 12) (fun k => by rw [if_pos rfl, if_pos rfl]) ?_
      refine Ev.step (fun k => ?_) (live (packL (bytesOf s)) [])
      simp only [selvagelaw03_StrsRound.j0]
      rw [if_pos (by trivial)]
      rfl
  · refine Ev.bind ⟨0, fun k _ => pack_long s (by omega) k⟩ ?_
    have hno : ∀ (y : List Int) (e : Int), Ev (fun k => selvagelaw03_StrsRound.j0 k s t [] 12 y e) true := fun y e => by
      refine Ev.step (fun k => ?_) (live [] y)
      simp only [selvagelaw03_StrsRound.j0]
      rw [if_neg (by decide)]
    by_cases h2 : t.size ≤ 60
    · refine Ev.bind (pack_ev t h2) ?_
      exact Ev.congr (fun k => by rw [if_neg (by decide)]) (hno (packL (bytesOf t)) 0)
    · refine Ev.bind ⟨0, fun k _ => pack_long t (by omega) k⟩ ?_
      exact Ev.congr (fun k => by rw [if_neg (by decide)]) (hno [] 12)
end Go.Proofs.Ytobkalblncefbaa.Pure
