/- For every text (its first 60 bytes), what Go's strs.Quote writes is read by strs.Unquote as that text, whatever stands behind it (its first 150 bytes): the law StrsBack returns true. Conditions: none. -/
import Derived.Test.YtobkalblncefbaaQx20
import Derived.Test.YtobkalblncefbaaS5
import Derived.Test.YtobkalblncefbaaS6
namespace Go.Proofs.Ytobkalblncefbaa.Pure
open Go.RowKit Go.Proofs.Ytobkalblncefbaa.Q Go.Proofs.YtobkalblncefbaaW.PrintWords Go.Proofs.YtobkalblncefbaaW.PrintLast
set_option linter.unusedVariables false
theorem dig_digl : ∀ i : Fin 16, dig (digl.getD i.val 0) = i.val := by decide
theorem bt_left (a b : ByteArray) (j : Nat) (h : j < a.size) : bt (a ++ b) (j : Int) = bt a (j : Int) := by
  unfold bt
  rw [dif_pos (by rw [ByteArray.size_append]; simp only [Int.toNat_natCast]; omega), dif_pos (by simpa using h)]
  simp only [Int.toNat_natCast]
  rw [ByteArray.getElem_append_left h]
/-- One round of the reading: what stands there is byte k's. -/
theorem round (s S : ByteArray) (k p n : Nat) (acc : List Int) (hp : p + (q1 (bt s (k : Int))).length < S.size)
    (hat : ∀ j c, (q1 (bt s (k : Int)))[j]? = some c → bt S ((p + j : Nat) : Int) = c) : uq S (n + 1) acc p = uq S n (acc ++ [bt s (k : Int)]) (p + (q1 (bt s (k : Int))).length) := by
  have hb := bt_range s (k : Int)
  generalize bt s (k : Int) = c at *
  rw [uq, if_neg (by omega)]
  rcases q1_cases c hb.1 hb.2 with ⟨hq, g1, g2, g3, g4⟩ | ⟨hq, rfl⟩ | ⟨hq, rfl⟩ | ⟨hq, rfl⟩ | ⟨i, j, hi, hj, hc, hq, _⟩
  · rw [hq] at hat hp ⊢
    simp only [List.length_cons, List.length_nil] at hp ⊢
    have b0 : bt S (p : Int) = c := hat 0 c rfl
    rw [b0, if_neg g3, if_neg (by omega), if_neg (by omega), if_neg g4]
  · rw [hq] at hat hp ⊢
    simp only [List.length_cons, List.length_nil] at hp ⊢
    have b0 : bt S (p : Int) = 92 := hat 0 92 rfl
    have b1 : bt S ((p + 1 : Nat) : Int) = 110 := hat 1 110 rfl
    rw [b0, if_neg (by decide), if_neg (by decide), if_neg (by decide), if_pos rfl, if_neg (by omega), b1, if_pos rfl]
  · rw [hq] at hat hp ⊢
    simp only [List.length_cons, List.length_nil] at hp ⊢
    have b0 : bt S (p : Int) = 92 := hat 0 92 rfl
    have b1 : bt S ((p + 1 : Nat) : Int) = 34 := hat 1 34 rfl
    rw [b0, if_neg (by decide), if_neg (by decide), if_neg (by decide), if_pos rfl, if_neg (by omega), b1, if_neg (by decide), if_pos rfl]
  · rw [hq] at hat hp ⊢
    simp only [List.length_cons, List.length_nil] at hp ⊢
    have b0 : bt S (p : Int) = 92 := hat 0 92 rfl
    have b1 : bt S ((p + 1 : Nat) : Int) = 92 := hat 1 92 rfl
    rw [b0, if_neg (by decide), if_neg (by decide), if_neg (by decide), if_pos rfl, if_neg (by omega), b1, if_neg (by decide), if_neg (by decide), if_pos rfl]
  · have d1 := dig_digl ⟨i, hi⟩
    have d2 := dig_digl ⟨j, hj⟩
    simp only at d1 d2
    rw [hq] at hat hp ⊢
    generalize digl.getD i 0 = x at *
    generalize digl.getD j 0 = y at *
    simp only [List.length_cons, List.length_nil] at hp ⊢
    have b0 : bt S (p : Int) = 92 := hat 0 92 rfl
    have b1 : bt S ((p + 1 : Nat) : Int) = 120 := hat 1 120 rfl
    have b2 : bt S ((p + 2 : Nat) : Int) = x := hat 2 x rfl
    have b3 : bt S ((p + 3 : Nat) : Int) = y := hat 3 y rfl
    rw [b0, if_neg (by decide), if_neg (by decide), if_neg (by decide), if_pos rfl, if_neg (by omega), b1, if_neg (by decide), if_neg (by decide), if_neg (by decide), if_pos rfl, if_neg (by omega), b2, d1, if_neg (by omega), if_neg (by omega), b3, d2, if_neg (by omega), ← hc]
theorem rounds (s S : ByteArray) (hs : s.size ≤ 60) (rest : ByteArray) (hS : S = strOfNums (qs s s.size ++ [34]) ++ rest) (d : Nat) :
    ∀ k n, k + d = s.size → d < n → uq S n ((bytesOf s).take k) (qs s k).length = (strOfNums (bytesOf s), (((qs s s.size).length + 1 : Nat) : Int), 0) := by
  have hB : Bytes (qs s s.size ++ [34]) := fun x hx => by
    rcases List.mem_append.1 hx with hx | hx
    · exact (qs_bytes s s.size (Nat.le_refl _)).1 x hx
    · simp at hx; omega
  have hz : (strOfNums (qs s s.size ++ [34])).size = (qs s s.size).length + 1 := by rw [str_size]; simp
  have hSz : S.size = (qs s s.size).length + 1 + rest.size := by rw [hS, ByteArray.size_append, hz]
  have hat : ∀ (j : Nat) (c : Int), (qs s s.size ++ [34])[j]? = some c → bt S (j : Int) = c := by
    intro j c hj
    obtain ⟨hlt, _⟩ := List.getElem?_eq_some_iff.1 hj
    rw [hS, bt_left _ _ _ (by rw [str_size]; exact hlt)]
    exact bt_str _ hB j c hj
  induction d with
  | zero =>
    intro k n hk hn
    obtain rfl : k = s.size := by omega
    obtain ⟨m, rfl⟩ : ∃ m, n = m + 1 := ⟨n - 1, by omega⟩
    have hb : bt S (((qs s s.size).length : Nat) : Int) = 34 := hat _ 34 (by simp)
    rw [uq, if_neg (by omega), if_pos hb, List.take_of_length_le (by rw [bytesOf_len]; exact Nat.le_refl _), if_neg (by rw [bytesOf_len]; omega)]
  | succ d ih =>
    intro k n hk hn
    obtain ⟨m, rfl⟩ : ∃ m, n = m + 1 := ⟨n - 1, by omega⟩
    obtain ⟨r, hr, hrl, _, hrt⟩ := quote_at s k (by omega) [34]
    have hll : (qs s s.size ++ [34]).length = (qs s k).length + (q1 (bt s (k : Int))).length + r.length := by rw [hr, List.length_append, List.length_append]
    have hrt1 : 1 ≤ r.length := by simpa using hrt
    rw [List.length_append, List.length_singleton] at hll
    rw [round s S k (qs s k).length m _ (by omega) (fun j c hj => by
      refine hat _ c ?_
      obtain ⟨hlt, _⟩ := List.getElem?_eq_some_iff.1 hj
      rw [hr, at_mid _ _ _ _ hlt]
      exact hj)]
    have h := ih (k + 1) m (by omega) (by omega)
    rw [qs_succ s k (by omega), List.length_append, List.take_add_one, bytesOf_get s k (by omega)] at h
    exact h
theorem str_bytes (s : ByteArray) : strOfNums (bytesOf s) = s := by
  apply ByteArray.ext
  unfold strOfNums bytesOf
  rw [List.map_map]
  have : (s.data.toList.map ((fun n : Int => UInt8.ofNat n.toNat) ∘ fun b => (b.toNat : Int))) = s.data.toList := by
    conv => rhs; rw [← List.map_id s.data.toList]
    apply List.map_congr_left
    intro b _
    simp
  rw [this]
theorem back (s rest : ByteArray) (hs : s.size ≤ 60) : uqAll (strOfNums (qs s s.size ++ [34]) ++ rest) = (s, (((qs s s.size).length + 1 : Nat) : Int), 0) := by
  have hB : Bytes (qs s s.size ++ [34]) := fun x hx => by
    rcases List.mem_append.1 hx with hx | hx
    · exact (qs_bytes s s.size (Nat.le_refl _)).1 x hx
    · simp at hx; omega
  have hz : (strOfNums (qs s s.size ++ [34])).size = (qs s s.size).length + 1 := by rw [str_size]; simp
  have hSz : (strOfNums (qs s s.size ++ [34]) ++ rest).size = (qs s s.size).length + 1 + rest.size := by rw [ByteArray.size_append, hz]
  have h0 : bt (strOfNums (qs s s.size ++ [34]) ++ rest) 0 = 34 := by
    have := bt_left (strOfNums (qs s s.size ++ [34])) rest 0 (by omega)
    rw [Int.natCast_zero] at this
    rw [this]
    exact bt_str _ hB 0 34 (by simp [qs])
  unfold uqAll
  rw [if_neg (by rw [hSz]; intro h; rcases h with h | h; · omega
                 · exact h h0)]
  have hl := (qs_bytes s s.size (Nat.le_refl _)).2
  have h := rounds s _ hs rest rfl s.size 0 (strOfNums (qs s s.size ++ [34]) ++ rest).size (Nat.zero_add _) (by omega)
  rw [str_bytes] at h
  exact h
theorem short (s rest : ByteArray) (hs : s.size ≤ 60) (hr : (few rest).size ≤ 150) : Ev (fun k => selvagelaw03_StrsBack.j0 k s rest) true := by
  have hql := qs_len s s.size (Nat.le_refl _)
  have hz : (strOfNums (qs s s.size ++ [34])).size = (qs s s.size).length + 1 := by rw [str_size]; simp
  have hSz : (strOfNums (qs s s.size ++ [34]) ++ few rest).size = (qs s s.size).length + 1 + (few rest).size := by rw [ByteArray.size_append, hz]
  refine Ev.step (f := fun k => (strs_Unquote.f k (strOfNums (qs s s.size ++ [34]) ++ few rest)).bind fun bt182 => (if bt182.1.toList = s.toList then (if bt182.2.1 = ((strOfNums (qs s s.size ++ [34])).size : Int) then (if bt182.2.2 = 0 then ((selvagelaw03_lives.f k).bind fun t185 => (some t185)) else (some false)) else (some false)) else (some false))) (fun k => ?_) ?_
  · simp only [selvagelaw03_StrsBack.j0]
    unfold strs_Quote.f
    rw [if_pos (by omega)]
    simp only [Option.bind_some, few_f]
    rw [if_pos (by omega)]
  · refine Ev.bind (unq_ev _ (by omega)) ?_
    rw [back s (few rest) hs]
    exact Ev.congr (fun k => by rw [if_pos rfl, if_pos (by simp only; omega), if_pos rfl]) lives_end
theorem StrsBack : selvagelaw03_StrsBack.Pure := by
  intro s rest _ _
  apply Ev.rounds
  by_cases h : (s.size : Int) > 60
  · refine Ev.congr (fun k => ?_) (short (s.extract 0 60) rest (by rw [ByteArray.size_extract]; omega) (few_size rest))
    unfold selvagelaw03_StrsBack.f
    rw [if_pos h, if_pos (by omega), if_pos (by omega)]
  · refine Ev.congr (fun k => ?_) (short s rest (by omega) (few_size rest))
    unfold selvagelaw03_StrsBack.f
    rw [if_neg h]
end Go.Proofs.Ytobkalblncefbaa.Pure
