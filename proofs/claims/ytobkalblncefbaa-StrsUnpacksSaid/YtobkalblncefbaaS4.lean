import Derived.Test.YtobkalblncefbaaS3
namespace Go.Proofs.Ytobkalblncefbaa.Q
open Go.RowKit Go.Proofs.YtobkalblncefbaaW.PrintWords Go.Proofs.YtobkalblncefbaaW.PrintLast Go.Proofs.YtobkalblncefbaaW.PrintMore
set_option linter.unusedVariables false
set_option linter.unusedSimpArgs false

theorem pow_le6 (n : Nat) (h : n ≤ 6) : (1 : Int) ≤ 256 ^ n ∧ (256 : Int) ^ n ≤ 281474976710656 := by
  match n, h with
  | 0, _ | 1, _ | 2, _ | 3, _ | 4, _ | 5, _ | 6, _ => decide

theorem power_l0 (n : Nat) (hn : n ≤ 6) (d : Nat) : ∀ i, i + d = n → Ev (fun k => selvageref03_power.l0 k (n : Int) (256 ^ i) (i : Int)) (256 ^ n) := by
  induction d with
  | zero =>
    intro i hi
    refine Ev.step (fun k => ?_) (Ev.now _)
    simp only [selvageref03_power.l0]
    rw [if_neg (by omega)]
    have : i = n := by omega
    rw [this]
  | succ d ih =>
    intro i hi
    have c1 : (i : Int) < (n : Int) := by omega
    have e1 : wrap64 ((i : Int) + 1) = ((i + 1 : Nat) : Int) := by rw [w64 _ (by omega) (by omega)]; omega
    have hi6 : i ≤ 6 := by omega
    refine Ev.step (fun k => ?_) (ih (i + 1) (by omega))
    simp only [selvageref03_power.l0]
    have hp := pow_le6 i hi6
    rw [if_pos c1, e1, Int.pow_succ]
    generalize (256 : Int) ^ i = p at *
    rw [w64 _ (by omega) (by omega)]
theorem power_ev (n : Nat) (hn : n ≤ 6) : Ev (fun k => selvageref03_power.f k (n : Int)) (256 ^ n) := power_l0 n hn n 0 (by omega)

def W (l : List Int) (i : Nat) : List Int := (l.length : Int) :: (List.range ((i + 6) / 7)).map (wd (l.take i))
theorem chunk_cut (l : List Int) (i j : Nat) : chunk (l.take i) j = (l.drop (7 * j)).take (min 7 (i - 7 * j)) := by
  unfold chunk
  rw [List.drop_take, List.take_take]
theorem wd_full (l : List Int) (i j : Nat) (h : 7 * j + 7 ≤ i) : wd (l.take i) j = wd l j := by
  unfold wd
  rw [chunk_cut, Nat.min_eq_left (by omega)]
  rfl
theorem wd_part (l : List Int) (i : Nat) (h : i % 7 ≤ 7) : wd (l.take i) (i / 7) = pk ((chunk l (i / 7)).take (i % 7)) := by
  unfold wd
  rw [chunk_cut]
  unfold chunk
  rw [List.take_take]
  congr 2
  omega
theorem W_next (l : List Int) (i : Nat) : W l (i + 1) = ((l.length : Int) :: (List.range (i / 7)).map (wd l)) ++ [pk ((chunk l (i / 7)).take (i % 7 + 1))] := by
  unfold W
  rw [show (i + 1 + 6) / 7 = i / 7 + 1 from by omega, List.range_succ, List.map_append, List.cons_append]
  have h1 : (List.range (i / 7)).map (wd (l.take (i + 1))) = (List.range (i / 7)).map (wd l) := List.map_congr_left (fun j hj => wd_full l _ j (by have := List.mem_range.1 hj; omega))
  rw [h1, List.map_cons, List.map_nil]
  have h2 : wd (l.take (i + 1)) (i / 7) = pk ((chunk l (i / 7)).take (i % 7 + 1)) := by
    unfold wd
    rw [chunk_cut]
    unfold chunk
    rw [List.take_take]
    congr 2
    omega
  rw [h2]
theorem W_here (l : List Int) (i : Nat) (h : i % 7 ≠ 0) : W l i = ((l.length : Int) :: (List.range (i / 7)).map (wd l)) ++ [pk ((chunk l (i / 7)).take (i % 7))] := by
  obtain ⟨j, rfl⟩ : ∃ j, i = j + 1 := ⟨i - 1, by omega⟩
  rw [W_next, show j / 7 = (j + 1) / 7 from by omega, show j % 7 + 1 = (j + 1) % 7 from by omega]
theorem W_fresh (l : List Int) (i : Nat) (h : i % 7 = 0) : W l i = (l.length : Int) :: (List.range (i / 7)).map (wd l) := by
  unfold W
  rw [show (i + 6) / 7 = i / 7 from by omega]
  rw [List.map_congr_left (fun j hj => wd_full l _ j (by have := List.mem_range.1 hj; omega))]

theorem set_end (xs : List Int) (y v : Int) (h : xs.length ≤ 1000) : (xs ++ [y]).set (wrap64 (((xs ++ [y]).length : Int) - 1)).toNat v = xs ++ [v] := by
  rw [List.length_append, List.length_singleton, w64 _ (by omega) (by omega)]
  have : (((xs.length + 1 : Nat) : Int) - 1).toNat = xs.length := by omega
  rw [this, List.set_append_right _ _ (Nat.le_refl _)]
  simp
theorem rd_end (xs : List Int) (y : Int) (h : xs.length ≤ 1000) : rd (xs ++ [y]) (wrap64 (((xs ++ [y]).length : Int) - 1)) = y := by
  rw [List.length_append, List.length_singleton, w64 _ (by omega) (by omega)]
  have : (((xs.length + 1 : Nat) : Int) - 1).toNat = xs.length := by omega
  unfold rd
  rw [this, List.getD_eq_getElem?_getD, List.getElem?_append_right (Nat.le_refl _)]
  simp

theorem rpack_l0 (a0 : ByteArray) (hz : a0.size ≤ 60) (d : Nat) : ∀ i, i + d = a0.size →
    Ev (fun k => selvageref03_Pack.l0 k a0 (W (bytesOf a0) i) (i : Int)) (packL (bytesOf a0), 0) := by
  induction d with
  | zero =>
    intro i hi
    refine Ev.step (fun k => ?_) (Ev.now _)
    simp only [selvageref03_Pack.l0]
    rw [if_neg (by omega)]
    have : i = a0.size := by omega
    subst this
    unfold W packL
    rw [bytesOf_len, List.take_of_length_le (by rw [bytesOf_len]; exact Nat.le_refl _)]
  | succ d ih =>
    intro i hi
    have hm : Int.tmod (i : Int) 7 = ((i % 7 : Nat) : Int) := by rw [Int.tmod_eq_emod_of_nonneg (by omega)]; omega
    have hb := bt_range a0 (i : Int)
    have hcl := chunk_len (bytesOf a0) (i / 7)
    rw [bytesOf_len] at hcl
    have hlt7 : i % 7 < (chunk (bytesOf a0) (i / 7)).length := by omega
    have hi7 : 7 * (i / 7) + i % 7 = i := by omega
    have hpl : (i % 7) ≤ (chunk (bytesOf a0) (i / 7)).length := by omega
    have h6 : i % 7 ≤ 6 := by omega
    have hi60 : i ≤ 60 := by omega
    have e1 : wrap64 ((i : Int) + 1) = ((i + 1 : Nat) : Int) := by rw [w64 _ (by omega) (by omega)]; omega
    have c0 : (i : Int) < (a0.size : Int) := by omega
    have c1 : (0 : Int) ≤ (i : Int) := by omega
    have hlen : (((bytesOf a0).length : Int) :: (List.range (i / 7)).map (wd (bytesOf a0))).length ≤ 1000 := by simp; omega
    have hrec := ih (i + 1) (by omega)
    have key : ∀ y : Int, y = pk ((chunk (bytesOf a0) (i / 7)).take (i % 7)) → wrap64 (y + wrap64 (wrap64 (bt a0 (i : Int)) * 256 ^ (i % 7))) = pk ((chunk (bytesOf a0) (i / 7)).take (i % 7 + 1)) := by
      rintro y rfl
      have htk := pk_take a0 (i / 7) (i % 7) hlt7
      rw [hi7] at htk
      rw [htk]
      clear htk hrec
      have hr := pk_take_range a0 (i / 7) (i % 7) hpl
      have hp := pow_le6 (i % 7) h6
      generalize (256 : Int) ^ (i % 7) = p at *
      generalize pk ((chunk (bytesOf a0) (i / 7)).take (i % 7)) = x at *
      generalize bt a0 (i : Int) = b at *
      have hbp : 0 ≤ b * p ∧ b * p ≤ 255 * 281474976710656 := ⟨Int.mul_nonneg (by omega) (by omega), Int.mul_le_mul (by omega) (by omega) (by omega) (by omega)⟩
      rw [w64 b (by omega) (by omega), w64 (b * p) (by omega) (by omega), w64 _ (by omega) (by omega)]
    have hn := W_next (bytesOf a0) i
    generalize hF : ((bytesOf a0).length : Int) :: (List.range (i / 7)).map (wd (bytesOf a0)) = F at *
    by_cases h0 : i % 7 = 0
    · have hw := W_fresh (bytesOf a0) i h0
      rw [hF] at hw
      refine Ev.step (f := fun k => (selvageref03_power.f k ((i % 7 : Nat) : Int)).bind fun t => selvageref03_Pack.l0 k a0 (F ++ [wrap64 (0 + wrap64 (wrap64 (bt a0 (i : Int)) * t))]) ((i + 1 : Nat) : Int)) (fun k => ?_) ?_
      · simp only [selvageref03_Pack.l0]
        rw [if_pos c0, hm, if_pos (by omega), hw, if_pos (by omega)]
        simp only [Option.bind_some]
        have l1 : (0 : Int) ≤ wrap64 (((F ++ [0]).length : Int) - 1) := by rw [List.length_append, List.length_singleton, w64 _ (by omega) (by omega)]; omega
        have l2 : wrap64 (((F ++ [0]).length : Int) - 1) < ((F ++ [0]).length : Int) := by rw [List.length_append, List.length_singleton, w64 _ (by omega) (by omega)]; omega
        rw [if_pos l1, if_pos l2, if_pos c1, rd_end F 0 hlen, e1]
        simp only [set_end F 0 _ hlen]
      · refine Ev.bind (power_ev (i % 7) h6) ?_
        have k0 := key 0 (by rw [h0]; rfl)
        rw [k0, ← hn]
        exact hrec
    · have hw := W_here (bytesOf a0) i h0
      rw [hF] at hw
      refine Ev.step (f := fun k => (selvageref03_power.f k ((i % 7 : Nat) : Int)).bind fun t => selvageref03_Pack.l0 k a0 (F ++ [wrap64 (pk ((chunk (bytesOf a0) (i / 7)).take (i % 7)) + wrap64 (wrap64 (bt a0 (i : Int)) * t))]) ((i + 1 : Nat) : Int)) (fun k => ?_) ?_
      · simp only [selvageref03_Pack.l0]
        rw [if_pos c0, hm, if_neg (by omega), hw]
        generalize pk ((chunk (bytesOf a0) (i / 7)).take (i % 7)) = y
        have l1 : (0 : Int) ≤ wrap64 (((F ++ [y]).length : Int) - 1) := by rw [List.length_append, List.length_singleton, w64 _ (by omega) (by omega)]; omega
        have l2 : wrap64 (((F ++ [y]).length : Int) - 1) < ((F ++ [y]).length : Int) := by rw [List.length_append, List.length_singleton, w64 _ (by omega) (by omega)]; omega
        rw [if_pos l1, if_pos l2, if_pos c1, rd_end F y hlen, e1]
        simp only [set_end F y _ hlen]
      · refine Ev.bind (power_ev (i % 7) h6) ?_
        rw [key _ rfl, ← hn]
        exact hrec
theorem rpack_ev (a0 : ByteArray) (hz : a0.size ≤ 60) : Ev (fun k => selvageref03_Pack.f k a0) (packL (bytesOf a0), 0) := by
  refine Ev.congr (fun k => ?_) (rpack_l0 a0 hz a0.size 0 (by omega))
  unfold selvageref03_Pack.f
  rw [if_neg (by omega)]
  unfold W
  rw [bytesOf_len]
  rfl
theorem rpack_long (a0 : ByteArray) (hz : 60 < a0.size) (k : Nat) : selvageref03_Pack.f k a0 = some ([], 12) := by
  unfold selvageref03_Pack.f
  rw [if_pos (by omega)]

theorem same_l0 (l : List Int) (hl : l.length ≤ 100000) (d : Nat) : ∀ i, i + d = l.length → Ev (fun k => selvageref02_SameInts.l0 k l l (i : Int)) true := by
  induction d with
  | zero =>
    intro i hi
    refine Ev.step (fun k => ?_) (Ev.now _)
    simp only [selvageref02_SameInts.l0]
    rw [if_neg (by omega)]
  | succ d ih =>
    intro i hi
    refine Ev.step (fun k => ?_) (ih (i + 1) (by omega))
    simp only [selvageref02_SameInts.l0]
    have e1 : wrap64 ((i : Int) + 1) = ((i + 1 : Nat) : Int) := by rw [w64 _ (by omega) (by omega)]; omega
    rw [if_pos (by omega), if_pos (by omega), if_pos (by omega), if_pos True.intro, e1]
theorem same_ev (l : List Int) (hl : l.length ≤ 100000) : Ev (fun k => selvageref02_SameInts.f k l l) true := by
  refine Ev.congr (fun k => ?_) (same_l0 l hl l.length 0 (by omega))
  unfold selvageref02_SameInts.f
  rw [if_pos rfl]
  rfl
theorem packL_len (l : List Int) : (packL l).length = 1 + (l.length + 6) / 7 := by unfold packL; simp; omega
end Go.Proofs.Ytobkalblncefbaa.Q
