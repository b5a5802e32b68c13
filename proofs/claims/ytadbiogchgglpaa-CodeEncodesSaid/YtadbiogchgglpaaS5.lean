import Derived.Test.YtadbiogchgglpaaS4
namespace Go.Proofs.Ytadbiogchgglpaa.Q
open Go.RowKit Go.Proofs.YtadbiogchgglpaaW.PrintWords Go.Proofs.YtadbiogchgglpaaW.PrintLast Go.Proofs.YtadbiogchgglpaaW.PrintMore
set_option linter.unusedVariables false
set_option linter.unusedSimpArgs false

theorem pow8 (i : Nat) : (2 : Int) ^ (8 * (i + 1)) = 2 ^ (8 * i) * 256 := by
  rw [Nat.mul_succ, Int.pow_add]; rfl
theorem byteAt_succ (n : Int) (i : Nat) : byteAt n (i + 1) = byteAt (n / 256) i := by
  unfold byteAt
  rw [pow8, Int.mul_comm, ← Int.ediv_ediv_of_nonneg (by omega : (0:Int) ≤ 256)]
theorem byteAt_zero (n : Int) : byteAt n 0 = n % 256 := by simp [byteAt]
theorem bytesFrom_succ (n : Int) : ∀ m j, bytesFrom n (j + 1) m = bytesFrom (n / 256) j m
  | 0, _ => rfl
  | m + 1, j => by rw [bytesFrom, bytesFrom, byteAt_succ, bytesFrom_succ n m (j + 1)]
theorem byteAt_range (n : Int) (i : Nat) : 0 ≤ byteAt n i ∧ byteAt n i < 256 := by
  unfold byteAt; omega
/-- One step of the document's eight. -/
theorem low_step (n : Int) (h0 : -4611686018427387904 ≤ n) (h1 : n ≤ 4611686018427387903) :
    (if Int.tmod n 256 < 0 then wrap64 (Int.tmod n 256 + 256) else Int.tmod n 256) = n % 256 ∧ wrap64 (Int.tdiv (wrap64 (n - n % 256)) 256) = n / 256 := by
  have e := Int.tmod_eq_emod (a := n) (b := 256)
  have hm : n.tmod 256 = n % 256 ∨ n.tmod 256 = n % 256 - 256 ∧ n % 256 ≠ 0 := by
    rw [e]
    split
    · left; omega
    · rename_i h
      right
      constructor
      · simp
      · intro h3; apply h; right; exact Int.dvd_of_emod_eq_zero h3
  have hz : n.tmod 256 = n % 256 - 256 → n < 0 := by
    intro h
    by_cases hn : 0 ≤ n
    · have := Int.tmod_nonneg 256 hn; omega
    · omega
  constructor
  · by_cases c : n.tmod 256 < 0
    · rw [if_pos c, w64 _ (by omega) (by omega)]; omega
    · rw [if_neg c]; omega
  · have h2 : n - n % 256 = n / 256 * 256 := by omega
    rw [w64 (n - n % 256) (by omega) (by omega), h2, Int.mul_tdiv_cancel _ (by omega), w64 _ (by omega) (by omega)]
theorem eight_loop : ∀ m j : Nat, j + m = 8 → ∀ (n : Int) (b : List Int), -4611686018427387904 ≤ n → n ≤ 4611686018427387903 → b.length + m ≤ 90000000 →
    Ev (fun k => selvageref13_eight.l0 k b (n / 256) (n % 256) (j : Int)) (b ++ bytesFrom n 0 m) := by
  intro m
  induction m with
  | zero =>
    intro j hj n b h0 h1 hb
    rw [bytesFrom, List.append_nil]
    exact Ev.step (fun k => by rw [selvageref13_eight.l0, if_neg (by omega)]) (Ev.now _)
  | succ m ih =>
    intro j hj n b h0 h1 hb
    have hlim : b.length < 140737488355328 := by omega
    have hj8 : (j : Int) < 8 := by omega
    have hmm : n % 256 % 256 = n % 256 := by omega
    have hih := ih (j + 1) (by omega) (n / 256) (b ++ [n % 256]) (by omega) (by omega) (by simp; omega)
    rw [bytesFrom, byteAt_zero, bytesFrom_succ, List.append_cons b]
    obtain ⟨s1, s2⟩ := low_step (n / 256) (by omega) (by omega)
    have ej := wn ((j : Int) + 1) (j + 1) (by omega) (by omega)
    refine Ev.step (f := fun k => selvageref13_eight.l0 k (b ++ [n % 256]) (n / 256 / 256) (n / 256 % 256) ((j + 1 : Nat) : Int)) (fun k => ?_) hih
    rw [selvageref13_eight.l0, if_pos hj8, if_pos hlim, hmm, Option.bind_some]
    by_cases c : Int.tmod (n / 256) 256 < 0
    · rw [if_pos c] at s1
      rw [if_pos c, s1, s2, ej]
    · rw [if_neg c] at s1
      rw [if_neg c, s1, s2, ej]
theorem eight_ev (n : Int) (b : List Int) (h0 : -4611686018427387904 ≤ n) (h1 : n ≤ 4611686018427387903) (hb : b.length + 8 ≤ 90000000) : Ev (fun k => selvageref13_eight.f k b n) (b ++ bytesFrom n 0 8) := by
  unfold selvageref13_eight.f
  obtain ⟨s1, s2⟩ := low_step n h0 h1
  have hl := eight_loop 8 0 rfl n b h0 h1 hb
  have hj : Ev (fun k => selvageref13_eight.j0 k b n (n % 256)) (b ++ bytesFrom n 0 8) := by
    refine Ev.step (f := fun k => selvageref13_eight.l0 k b (n / 256) (n % 256) 0) (fun k => by rw [selvageref13_eight.j0, s2]) hl
  by_cases c : Int.tmod n 256 < 0
  · rw [if_pos c] at s1
    exact Ev.congr (fun k => by rw [if_pos c, s1]) hj
  · rw [if_neg c] at s1
    exact Ev.congr (fun k => by rw [if_neg c, s1]) hj
theorem two_f (n : Int) (b : List Int) (h0 : 0 ≤ n) (h1 : n ≤ 65535) (hb : b.length ≤ 90000000) : selvageref13_two.f b n = some (b ++ putP 2 [n]) := by
  unfold selvageref13_two.f
  have e1 : Int.tmod n 256 = n % 256 := Int.tmod_eq_emod_of_nonneg h0
  have e2 : Int.tdiv n 256 = n / 256 := Int.tdiv_eq_ediv_of_nonneg h0
  have hp : putP 2 [n] = [n % 256, n / 256 % 256] := by
    simp [putP, bytesFrom, byteAt]
  rw [e1, e2, w64 (n / 256) (by omega) (by omega), Option.bind_some, if_pos (by simp; omega), hp]
  congr 3
  omega
theorem put1_one (n : Int) : putP 1 [n] = [n % 256] := by simp [putP, bytesFrom, byteAt]

theorem put2_two (a b : Int) : putP 2 [a, b] = putP 2 [a] ++ putP 2 [b] := by simp [putP]
theorem put1_three (a b c : Int) : putP 1 [a, b, c] = [a % 256, b % 256, c % 256] := by simp [putP, bytesFrom, byteAt]
/-! ### the document's Encode -/
theorem instrOk_parts {i : S42} (h : instrOk i = true) : 0 ≤ usesP i.f0 ∧ 0 ≤ i.f1 ∧ i.f1 ≤ 65535 ∧ 0 ≤ i.f2 ∧ i.f2 ≤ 65535 := by
  have := of_decide_eq_true h
  exact ⟨this.1, this.2.1, this.2.2.1, this.2.2.2.1, this.2.2.2.2.1⟩
section
variable (l0 : List S40) (l1 : List Int) (l2 : List ByteArray) (a3 : Int)
theorem renc_l2 (hl : l0.length ≤ 120) (hb : ∀ f ∈ l0, bodyOk f = true) : ∀ d p, p + d = l0.length → ∀ b : List Int, b.length + 2005 * d ≤ 10000000 →
    Ev (fun k => selvageref13_Encode.l2 k b (p : Int) l0 l1 l2 a3) (b ++ bodiesB (l0.drop p), 0) := by
  intro d
  induction d with
  | zero =>
    intro p hp b hbl
    rw [List.drop_eq_nil_of_le (by omega), bodiesB, List.append_nil]
    exact Ev.step (fun k => by rw [selvageref13_Encode.l2, if_neg (by omega)]) (Ev.now _)
  | succ d ih =>
    intro p hp b hbl
    have hlt : p < l0.length := by omega
    rw [List.drop_eq_getElem_cons hlt, bodiesB]
    have hok := hb _ (List.getElem_mem hlt)
    have hg : rd_T40 l0 (p : Int) = l0[p] := rd40_get l0 p hlt
    generalize l0[p] = f at *
    obtain ⟨hf, hio⟩ := bodyOk_parts hok
    have hfl : f.f3.length ≤ 400 := hf.2.2.2.2.2.2.2
    have inner : ∀ m q, q + m = f.f3.length → ∀ c : List Int, c.length + 5 * m + 2005 * d ≤ 10000000 →
        Ev (fun k => selvageref13_Encode.l3 k c (p : Int) (q : Int) l0 l1 l2 a3 f.f0 f.f1 f.f2 f.f3) (c ++ instrsB (f.f3.drop q) ++ bodiesB (l0.drop (p + 1)), 0) := by
      intro m
      induction m with
      | zero =>
        intro q hq c hc
        rw [List.drop_eq_nil_of_le (by omega), instrsB, List.append_nil]
        have hih := ih (p + 1) (by omega) c (by omega)
        have hq3 : ¬ (q : Int) < (f.f3.length : Int) := by omega
        have e := wn ((p : Int) + 1) (p + 1) (by omega) (by omega)
        exact Ev.step (f := fun k => selvageref13_Encode.l2 k c ((p + 1 : Nat) : Int) l0 l1 l2 a3) (fun k => by rw [selvageref13_Encode.l3, if_neg hq3, e]) hih
      | succ m ihm =>
        intro q hq c hc
        have hq2 : q < f.f3.length := by omega
        rw [List.drop_eq_getElem_cons hq2, instrsB]
        have hgi : rd_T42 f.f3 (q : Int) = f.f3[q] := rd42_get f.f3 q hq2
        have hii := hio _ (List.getElem_mem hq2)
        generalize f.f3[q] = i at *
        obtain ⟨_, p1, p2, p3, p4⟩ := instrOk_parts hii
        have hih := ihm (q + 1) (by omega) (c ++ [i.f0 % 256] ++ putP 2 [i.f1] ++ putP 2 [i.f2]) (by simp [putP_len]; omega)
        have t1 := two_f i.f1 (c ++ [i.f0 % 256]) p1 p2 (by simp; omega)
        have t2 := two_f i.f2 (c ++ [i.f0 % 256] ++ putP 2 [i.f1]) p3 p4 (by simp [putP_len]; omega)
        have c1 : (q : Int) < (f.f3.length : Int) := by omega
        have c2 : (0 : Int) ≤ (q : Int) := by omega
        have c3 : c.length < 140737488355328 := by omega
        have eb : c ++ (instrB i ++ instrsB (f.f3.drop (q + 1))) = c ++ [i.f0 % 256] ++ putP 2 [i.f1] ++ putP 2 [i.f2] ++ instrsB (f.f3.drop (q + 1)) := by
          simp [instrB, put1_one, put2_two, List.append_assoc]
        rw [eb]
        have eq := wn ((q : Int) + 1) (q + 1) (by omega) (by omega)
        refine Ev.step (fun k => ?_) hih
        rw [selvageref13_Encode.l3, if_pos c1, if_pos c2, if_pos c3, hgi, t1, Option.bind_some, t2, Option.bind_some, eq]
    have hin := inner f.f3.length 0 (by omega) (b ++ [f.f0 % 256, f.f1 % 256, f.f2 % 256] ++ putP 2 [(f.f3.length : Int)]) (by simp [putP_len]; omega)
    have t1 := two_f (f.f3.length : Int) (b ++ [f.f0 % 256, f.f1 % 256, f.f2 % 256]) (by omega) (by omega) (by simp; omega)
    have c1 : (p : Int) < (l0.length : Int) := by omega
    have c2 : (0 : Int) ≤ (p : Int) := by omega
    have c3 : b.length + ([f.f0 % 256, f.f1 % 256, f.f2 % 256] : List Int).length < 140737488355328 := by simp; omega
    have eb : b ++ (bodyB f ++ bodiesB (l0.drop (p + 1))) = b ++ [f.f0 % 256, f.f1 % 256, f.f2 % 256] ++ putP 2 [(f.f3.length : Int)] ++ instrsB (f.f3.drop 0) ++ bodiesB (l0.drop (p + 1)) := by
      simp [bodyB, put1_three, List.append_assoc]
    rw [eb]
    refine Ev.step (fun k => ?_) hin
    rw [selvageref13_Encode.l2, if_pos c1, if_pos c2, hg, Option.bind_some, if_pos c3, t1, Option.bind_some]
    rfl
theorem renc_l1 (hl : l0.length ≤ 120) (hb : ∀ f ∈ l0, bodyOk f = true) (h2 : l2.length ≤ 120) (hs : ∀ s ∈ l2, s.size ≤ 60) : ∀ d p, p + d = l2.length → ∀ b : List Int, b.length + 61 * d ≤ 1000000 →
    Ev (fun k => selvageref13_Encode.l1 k b (p : Int) l0 l1 l2 a3) (b ++ textsB (l2.drop p) ++ putP 1 [(l0.length : Int)] ++ bodiesB l0, 0) := by
  intro d
  induction d with
  | zero =>
    intro p hp b hbl
    rw [List.drop_eq_nil_of_le (by omega), textsB, List.append_nil, put1_one]
    exact Ev.step (f := fun k => selvageref13_Encode.l2 k (b ++ [(l0.length : Int) % 256]) 0 l0 l1 l2 a3) (fun k => by rw [selvageref13_Encode.l1, if_neg (by omega), if_pos (by omega)]) (renc_l2 l0 l1 l2 a3 hl hb l0.length 0 (by omega) _ (by simp; omega))
  | succ d ih =>
    intro p hp b hbl
    have hlt : p < l2.length := by omega
    rw [List.drop_eq_getElem_cons hlt, textsB]
    have hsz := hs _ (List.getElem_mem hlt)
    have hg : rdOf ByteArray.empty l2 (p : Int) = l2[p] := rdOf_get _ l2 p hlt
    generalize l2[p] = s at *
    have hih := ih (p + 1) (by omega) (b ++ [(s.size : Int) % 256] ++ bytesOf s) (by simp [bytesOf_len]; omega)
    have c1 : (p : Int) < (l2.length : Int) := by omega
    have c2 : (0 : Int) ≤ (p : Int) := by omega
    have c3 : b.length < 140737488355328 := by omega
    have c4 : (b ++ [(s.size : Int) % 256]).length + s.size < 140737488355328 := by simp; omega
    have eb : b ++ (textB s ++ textsB (l2.drop (p + 1))) = b ++ [(s.size : Int) % 256] ++ bytesOf s ++ textsB (l2.drop (p + 1)) := by
      simp [textB, put1_one, List.append_assoc]
    rw [eb]
    have e := wn ((p : Int) + 1) (p + 1) (by omega) (by omega)
    refine Ev.step (fun k => ?_) hih
    rw [selvageref13_Encode.l1, if_pos c1, if_pos c2, if_pos c3, hg, Option.bind_some, if_pos c4, e]
theorem renc_l0 (hl : l0.length ≤ 120) (hb : ∀ f ∈ l0, bodyOk f = true) (h2 : l2.length ≤ 120) (hs : ∀ s ∈ l2, s.size ≤ 60) (h1 : l1.length ≤ 120) (hn : ∀ n ∈ l1, intOk n = true) : ∀ d p, p + d = l1.length → ∀ b : List Int, b.length + 8 * d ≤ 10000 →
    Ev (fun k => selvageref13_Encode.l0 k b (p : Int) l0 l1 l2 a3) (b ++ putP 8 (l1.drop p) ++ putP 1 [(l2.length : Int)] ++ textsB l2 ++ putP 1 [(l0.length : Int)] ++ bodiesB l0, 0) := by
  intro d
  induction d with
  | zero =>
    intro p hp b hbl
    rw [List.drop_eq_nil_of_le (by omega), putP, List.append_nil, put1_one (l2.length : Int)]
    exact Ev.step (f := fun k => selvageref13_Encode.l1 k (b ++ [(l2.length : Int) % 256]) 0 l0 l1 l2 a3) (fun k => by rw [selvageref13_Encode.l0, if_neg (by omega), if_pos (by omega)]) (renc_l1 l0 l1 l2 a3 hl hb h2 hs l2.length 0 (by omega) _ (by simp; omega))
  | succ d ih =>
    intro p hp b hbl
    have hlt : p < l1.length := by omega
    rw [List.drop_eq_getElem_cons hlt, putP, ← List.append_assoc b]
    have hno := hn _ (List.getElem_mem hlt)
    have hg : rd l1 (p : Int) = l1[p] := rd_get l1 p hlt
    generalize l1[p] = n at *
    have hr := of_decide_eq_true hno
    have hih := ih (p + 1) (by omega) (b ++ bytesFrom n 0 8) (by simp [bytesFrom_len]; omega)
    have h8 := eight_ev n b hr.1 hr.2 (by omega)
    have c1 : (p : Int) < (l1.length : Int) := by omega
    have c2 : (0 : Int) ≤ (p : Int) := by omega
    have e := wn ((p : Int) + 1) (p + 1) (by omega) (by omega)
    refine Ev.step (f := fun k => (selvageref13_eight.f k b n).bind fun t => selvageref13_Encode.l0 k t ((p + 1 : Nat) : Int) l0 l1 l2 a3) (fun k => by rw [selvageref13_Encode.l0, if_pos c1, if_pos c2, hg, e]) ?_
    exact Ev.bind h8 hih
theorem renc_ev (h0 : l0.length ≤ 1000000) (hi : ∀ f ∈ l0, f.f3.length ≤ 1000000) : Ev (fun k => selvageref13_Encode.f k l0 l1 l2 a3) (encP l0 l1 l2 a3) := by
  unfold selvageref13_Encode.f encP
  refine Ev.bind (rmay_ev l0 l1 l2 a3 h0 hi) ?_
  by_cases hm : mayP l0 l1 l2 a3 = true
  · obtain ⟨hp, hb, hn, hs⟩ := may_parts hm
    rw [if_pos hm]
    refine Ev.congr (fun k => if_pos hm) ?_
    have e : codeB l0 l1 l2 a3 = [83, 77, 49, a3 % 256, (l1.length : Int) % 256] ++ putP 8 (l1.drop 0) ++ putP 1 [(l2.length : Int)] ++ textsB l2 ++ putP 1 [(l0.length : Int)] ++ bodiesB l0 := by
      simp [codeB, putP, bytesFrom, byteAt, List.append_assoc]
    rw [e]
    exact renc_l0 l0 l1 l2 a3 (by omega) hb (by omega) (fun s h => of_decide_eq_true (hs s h)) (by omega) hn l1.length 0 (by omega) _ (by simp; omega)
  · rw [if_neg hm]
    exact Ev.congr (fun k => if_neg hm) (Ev.now _)
end
end Go.Proofs.Ytadbiogchgglpaa.Q
