/- For every text (its first 150 bytes), what Go's strs.Quote writes has only bytes from 32 to 126, a quote sign only at its ends and behind a backslash, and not too many or few: the law StrsPlain returns true. Conditions: none. -/
import Derived.Test.YtobkalblncefbaaQx22
import Derived.Test.YtobkalblncefbaaS3
import Derived.Test.YtobkalblncefbaaS5
namespace Go.Proofs.Ytobkalblncefbaa.Pure
open Go.RowKit Go.Proofs.Ytobkalblncefbaa.Q Go.Proofs.YtobkalblncefbaaW.PrintWords Go.Proofs.YtobkalblncefbaaW.PrintLast
set_option linter.unusedVariables false
theorem step (L : List Int) (hL : L.length ≤ 1000) (hB : Bytes L) (back : Bool) (p : Nat) (c : Int) (hc : L[p]? = some c) (hp : p + 1 < L.length) (h1 : 32 ≤ c) (h2 : c ≤ 126) (h3 : c = 34 → back = true)
    (h : Ev (fun k => selvagelaw03_StrsPlain.l0 k (strOfNums L) (c == 92 && !back) ((p + 1 : Nat) : Int)) true) : Ev (fun k => selvagelaw03_StrsPlain.l0 k (strOfNums L) back (p : Int)) true := by
  refine Ev.step (fun k => ?_) h
  simp only [selvagelaw03_StrsPlain.l0]
  have hz := str_size L
  have hbt := bt_str L hB p c hc
  have e1 : wrap64 ((p : Int) + 1) = ((p + 1 : Nat) : Int) := by rw [w64 _ (by omega) (by omega)]; omega
  rw [hz, w64 _ (by omega) (by omega), if_pos (by omega), if_pos (by omega), if_pos (by omega), hbt, if_neg (by omega), if_neg (by omega), e1]
  by_cases h34 : c = 34
  · have hb := h3 h34
    subst hb
    subst h34
    rw [if_pos rfl, if_pos rfl, if_neg (by decide)]
    rfl
  · rw [if_neg h34]
    by_cases h92 : c = 92
    · subst h92
      rw [if_pos rfl]
      simp
    · rw [if_neg h92]
      have : (c == 92) = false := beq_eq_false_iff_ne.mpr h92
      rw [this]
      rfl
theorem block (s : ByteArray) (hs : s.size ≤ 150) (k : Nat) (hk : k < s.size) (h : Ev (fun n => selvagelaw03_StrsPlain.l0 n (strOfNums (qs s s.size ++ [34])) false (((qs s (k + 1)).length : Nat) : Int)) true) :
    Ev (fun n => selvagelaw03_StrsPlain.l0 n (strOfNums (qs s s.size ++ [34])) false (((qs s k).length : Nat) : Int)) true := by
  obtain ⟨r, hr, hrl, _, hrt⟩ := quote_at s k hk [34]
  have hlen : (qs s s.size ++ [34]).length ≤ 1000 := by have := qs_len s s.size (Nat.le_refl _); simp; omega
  have hB : Bytes (qs s s.size ++ [34]) := fun x hx => by
    rcases List.mem_append.1 hx with hx | hx
    · exact (qs_bytes s s.size (Nat.le_refl _)).1 x hx
    · simp at hx; omega
  have hb := bt_range s (k : Int)
  have hat := fun j hj => at_mid (qs s k) (q1 (bt s (k : Int))) r j hj
  rw [← hr] at hat
  have hll : (qs s s.size ++ [34]).length = (qs s k).length + (q1 (bt s (k : Int))).length + r.length := by rw [hr, List.length_append, List.length_append]
  rw [qs_succ s k hk, List.length_append] at h
  have hrt1 : 1 ≤ r.length := by simpa using hrt
  generalize qs s s.size ++ [34] = L at *
  generalize bt s (k : Int) = c at *
  generalize (qs s k).length = p at *
  rcases q1_cases c hb.1 hb.2 with ⟨hq, g1, g2, g3, g4⟩ | ⟨hq, _⟩ | ⟨hq, _⟩ | ⟨hq, _⟩ | ⟨i, j, hi, hj, _, hq, _⟩
  · rw [hq] at h hat hll
    simp only [List.length_cons, List.length_nil] at h hll
    refine step L hlen hB false p c (hat 0 (by simp)) (by omega) g1 g2 (fun e => absurd e g3) ?_
    have : (c == 92) = false := beq_eq_false_iff_ne.mpr g4
    rw [this]
    exact h
  · rw [hq] at h hat hll
    simp only [List.length_cons, List.length_nil] at h hll
    refine step L hlen hB false p 92 (hat 0 (by simp)) (by omega) (by omega) (by omega) (fun e => absurd e (by decide)) ?_
    exact step L hlen hB true (p + 1) 110 (hat 1 (by simp)) (by omega) (by omega) (by omega) (fun e => absurd e (by decide)) h
  · rw [hq] at h hat hll
    simp only [List.length_cons, List.length_nil] at h hll
    refine step L hlen hB false p 92 (hat 0 (by simp)) (by omega) (by omega) (by omega) (fun e => absurd e (by decide)) ?_
    exact step L hlen hB true (p + 1) 34 (hat 1 (by simp)) (by omega) (by omega) (by omega) (fun _ => rfl) h
  · rw [hq] at h hat hll
    simp only [List.length_cons, List.length_nil] at h hll
    refine step L hlen hB false p 92 (hat 0 (by simp)) (by omega) (by omega) (by omega) (fun e => absurd e (by decide)) ?_
    exact step L hlen hB true (p + 1) 92 (hat 1 (by simp)) (by omega) (by omega) (by omega) (fun e => absurd e (by decide)) h
  · have d1 := digl_ok ⟨i, hi⟩
    have d2 := digl_ok ⟨j, hj⟩
    simp only at d1 d2
    rw [hq] at h hat hll
    generalize digl.getD i 0 = x at *
    generalize digl.getD j 0 = y at *
    simp only [List.length_cons, List.length_nil] at h hll
    refine step L hlen hB false p 92 (hat 0 (by simp)) (by omega) (by omega) (by omega) (fun e => absurd e (by decide)) ?_
    refine step L hlen hB true (p + 1) 120 (hat 1 (by simp)) (by omega) (by omega) (by omega) (fun e => absurd e (by decide)) ?_
    refine step L hlen hB false (p + 2) x (hat 2 (by simp)) (by omega) (by omega) (by omega) (fun e => by omega) ?_
    have e1 : (x == 92) = false := beq_eq_false_iff_ne.mpr (by omega)
    rw [e1]
    refine step L hlen hB false (p + 3) y (hat 3 (by simp)) (by omega) (by omega) (by omega) (fun e => by omega) ?_
    have e2 : (y == 92) = false := beq_eq_false_iff_ne.mpr (by omega)
    rw [e2]
    exact h
theorem blocks (s : ByteArray) (hs : s.size ≤ 150) (d : Nat) : ∀ k, k + d = s.size → Ev (fun n => selvagelaw03_StrsPlain.l0 n (strOfNums (qs s s.size ++ [34])) false (((qs s k).length : Nat) : Int)) true := by
  induction d with
  | zero =>
    intro k hk
    obtain rfl : k = s.size := by omega
    refine Ev.step (fun n => ?_) lives_end
    have hl := qs_len s s.size (Nat.le_refl _)
    simp only [selvagelaw03_StrsPlain.l0]
    rw [str_size, List.length_append, List.length_singleton, w64 _ (by omega) (by omega), if_neg (by omega), if_neg (by decide)]
  | succ d ih =>
    intro k hk
    exact block s hs k (by omega) (ih (k + 1) (by omega))
theorem StrsPlain : selvagelaw03_StrsPlain.Pure := by
  intro a _
  apply Ev.rounds
  have hs := few_size a
  unfold selvagelaw03_StrsPlain.f
  simp only [few_f, Option.bind_some]
  generalize few a = s at *
  have hql := qs_len s s.size (Nat.le_refl _)
  have hqb := qs_bytes s s.size (Nat.le_refl _)
  have hB : Bytes (qs s s.size ++ [34]) := fun x hx => by
    rcases List.mem_append.1 hx with hx | hx
    · exact hqb.1 x hx
    · simp at hx; omega
  have hz : (strOfNums (qs s s.size ++ [34])).size = (qs s s.size).length + 1 := by rw [str_size]; simp
  have h0 : bt (strOfNums (qs s s.size ++ [34])) 0 = 34 := bt_str _ hB 0 34 (by simp [qs])
  have h1 : bt (strOfNums (qs s s.size ++ [34])) (((qs s s.size).length : Nat) : Int) = 34 := bt_str _ hB _ 34 (by simp)
  have hb := blocks s hs s.size 0 (Nat.zero_add _)
  have h00 : (qs s 0).length = 1 := rfl
  rw [h00] at hb
  refine Ev.congr (f := fun k => selvagelaw03_StrsPlain.j0 k (strOfNums (qs s s.size ++ [34])) false) (fun k => ?_) ?_
  · unfold strs_Quote.f
    rw [if_pos (by omega)]
    simp only [Option.bind_some]
    generalize strOfNums (qs s s.size ++ [34]) = q at *
    rw [hz]
    have w1 : wrap64 ((((qs s s.size).length + 1 : Nat) : Int) - 1) = (((qs s s.size).length : Nat) : Int) := by rw [w64 _ (by omega) (by omega)]; omega
    rw [if_neg (by omega), if_pos (by omega), if_pos h0, w1, if_pos (by omega), if_pos (by omega), if_pos h1, w64 (4 * (s.size : Int)) (by omega) (by omega), w64 ((s.size : Int) + 2) (by omega) (by omega), w64 (4 * (s.size : Int) + 2) (by omega) (by omega), if_neg (by omega)]
    have : decide ((((qs s s.size).length + 1 : Nat) : Int) > 4 * (s.size : Int) + 2) = false := decide_eq_false (by omega)
    rw [this]
  · refine Ev.step (fun k => ?_) hb
    simp only [selvagelaw03_StrsPlain.j0]
    rw [if_neg (by decide)]
    rfl
end Go.Proofs.Ytobkalblncefbaa.Pure
