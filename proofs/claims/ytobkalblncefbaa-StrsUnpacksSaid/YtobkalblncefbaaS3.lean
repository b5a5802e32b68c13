import Derived.Test.YtobkalblncefbaaS2
namespace Go.Proofs.Ytobkalblncefbaa.Q
open Go.RowKit Go.Proofs.YtobkalblncefbaaW.PrintWords Go.Proofs.YtobkalblncefbaaW.PrintLast Go.Proofs.YtobkalblncefbaaW.PrintMore
set_option linter.unusedVariables false
set_option linter.unusedSimpArgs false

theorem w64 (n : Int) (h0 : -9223372036854775808 ≤ n) (h1 : n ≤ 9223372036854775807) : wrap64 n = n := IntWalk.wrap64_in n ⟨h0, h1⟩

theorem chunk_at (a0 : ByteArray) (i t : Nat) (ht : t < (chunk (bytesOf a0) i).length) : (chunk (bytesOf a0) i)[t]? = some (bt a0 ((7 * i + t : Nat) : Int)) ∧ 7 * i + t < a0.size ∧ t < 7 := by
  rw [chunk_len, bytesOf_len] at ht
  refine ⟨?_, by omega, by omega⟩
  rw [chunk_get _ _ _ (by omega), bytesOf_get a0 _ (by omega)]

theorem pk_take (a0 : ByteArray) (i t : Nat) (ht : t < (chunk (bytesOf a0) i).length) : pk ((chunk (bytesOf a0) i).take (t + 1)) = pk ((chunk (bytesOf a0) i).take t) + bt a0 ((7 * i + t : Nat) : Int) * 256 ^ t := by
  rw [List.take_add_one, (chunk_at a0 i t ht).1, Option.toList_some, pk_snoc, List.length_take, Nat.min_eq_left (by omega)]
theorem pk_take_range (a0 : ByteArray) (i t : Nat) (ht : t ≤ (chunk (bytesOf a0) i).length) : 0 ≤ pk ((chunk (bytesOf a0) i).take t) ∧ pk ((chunk (bytesOf a0) i).take t) < 256 ^ t := by
  have h := pk_range ((chunk (bytesOf a0) i).take t) (fun x hx => chunk_bytes (bytes_bytes a0) i x (List.mem_of_mem_take hx))
  rwa [List.length_take, Nat.min_eq_left ht] at h

theorem pack_l1 (a0 : ByteArray) (hz : a0.size ≤ 60) (i : Nat) (x4 : List Int) (hx4 : x4.length ≤ 100) (r : List Int × Int)
    (h : Ev (fun k => strs_Pack.l0 k a0 (x4 ++ [wd (bytesOf a0) i]) ((7 * i + 7 : Nat) : Int)) r) (hi : 7 * i ≤ 60) (d : Nat) :
    ∀ t, t + d = (chunk (bytesOf a0) i).length → Ev (fun k => strs_Pack.l1 k a0 x4 ((7 * i : Nat) : Int) (pk ((chunk (bytesOf a0) i).take t)) ((chunk (bytesOf a0) i).length : Int) (t : Int)) r := by
  induction d with
  | zero =>
    intro t ht
    refine Ev.step (fun k => ?_) h
    simp only [strs_Pack.l1]
    rw [if_neg (by omega), if_pos (by omega), List.take_of_length_le (by omega), w64 _ (by omega) (by omega)]
    rfl
  | succ d ih =>
    intro t ht
    obtain ⟨h1, h2, h3⟩ := chunk_at a0 i t (by omega)
    have hb := bt_range a0 ((7 * i + t : Nat) : Int)
    have ht6 : t ≤ 6 := by omega
    have htl : t ≤ (chunk (bytesOf a0) i).length := by omega
    have c1 : (t : Int) < ((chunk (bytesOf a0) i).length : Int) := by omega
    have c2 : (0 : Int) ≤ ((7 * i + t : Nat) : Int) := by omega
    have c3 : ((7 * i + t : Nat) : Int) < (a0.size : Int) := by omega
    refine Ev.step (fun k => ?_) (ih (t + 1) (by omega))
    simp only [strs_Pack.l1]
    have e1 : wrap64 (((7 * i : Nat) : Int) + (t : Int)) = ((7 * i + t : Nat) : Int) := by rw [w64 _ (by omega) (by omega)]; omega
    have e2 : wrap64 (8 * (t : Int)) = 8 * (t : Int) := w64 _ (by omega) (by omega)
    have e3 : wrap64 ((t : Int) + 1) = ((t + 1 : Nat) : Int) := by rw [w64 _ (by omega) (by omega)]; omega
    have c4 : 0 ≤ wrap64 (8 * (t : Int)) := by rw [e2]; omega
    have tk := pk_take a0 i t (by omega)
    have hr := pk_take_range a0 i t htl
    have o := or_step (pk ((chunk (bytesOf a0) i).take t)) (bt a0 ((7 * i + t : Nat) : Int)) t ht6 hr.1 hr.2 hb.1 hb.2
    rw [if_pos c1, e1, if_pos c2, if_pos c3, if_pos c4, o, ← tk, e3]

theorem pack_l0 (a0 : ByteArray) (hz : a0.size ≤ 60) (d : Nat) : ∀ i, i + d = (a0.size + 6) / 7 →
    Ev (fun k => strs_Pack.l0 k a0 ((a0.size : Int) :: (List.range i).map (wd (bytesOf a0))) ((7 * i : Nat) : Int)) (packL (bytesOf a0), 0) := by
  induction d with
  | zero =>
    intro i hi
    refine Ev.step (fun k => ?_) (Ev.now _)
    simp only [strs_Pack.l0]
    rw [if_neg (by omega)]
    unfold packL
    rw [bytesOf_len, ← hi, Nat.add_zero]
  | succ d ih =>
    intro i hi
    have hl : 7 * i < a0.size := by omega
    have hcl := chunk_len (bytesOf a0) i
    rw [bytesOf_len] at hcl
    have h := ih (i + 1) (by omega)
    have h' := pack_l1 a0 hz i ((a0.size : Int) :: (List.range i).map (wd (bytesOf a0))) (by simp; omega) _ (Ev.congr (fun k => by rw [List.range_succ, List.map_append, List.cons_append]; rfl) h) (by omega) _ 0 (Nat.zero_add _)
    refine Ev.step (fun k => ?_) h'
    simp only [strs_Pack.l0]
    rw [if_pos (by omega), w64 _ (by omega) (by omega)]
    have e : mn 7 ((a0.size : Int) - ((7 * i : Nat) : Int)) = ((chunk (bytesOf a0) i).length : Int) := by rw [hcl]; unfold mn; split <;> omega
    rw [e]
    rfl

theorem pack_ev (a0 : ByteArray) (hz : a0.size ≤ 60) : Ev (fun k => strs_Pack.f k a0) (packL (bytesOf a0), 0) := by
  refine Ev.congr (fun k => ?_) (pack_l0 a0 hz ((a0.size + 6) / 7) 0 (by omega))
  unfold strs_Pack.f
  rw [if_neg (by omega)]
  rfl
theorem pack_long (a0 : ByteArray) (hz : 60 < a0.size) (k : Nat) : strs_Pack.f k a0 = some ([], 12) := by
  unfold strs_Pack.f
  rw [if_pos (by omega)]
end Go.Proofs.Ytobkalblncefbaa.Q
