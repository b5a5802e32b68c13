import Derived.Test.YtadbiogchgglpaaS3
import Derived.Test.YtadbiogchgglpaaQx16
import Derived.Test.YtadbiogchgglpaaQx17
namespace Go.Proofs.Ytadbiogchgglpaa.Q
open Go.RowKit Go.Proofs.YtadbiogchgglpaaW.PrintWords Go.Proofs.YtadbiogchgglpaaW.PrintLast Go.Proofs.YtadbiogchgglpaaW.PrintMore
set_option linter.unusedVariables false
set_option linter.unusedSimpArgs false

/-- Byte i of a number. -/
def byteAt (n : Int) (i : Nat) : Int := n / 2 ^ (8 * i) % 256
/-- Bytes j, j + 1, .. (m of them) of a number. -/
def bytesFrom (n : Int) : Nat → Nat → List Int
  | _, 0 => []
  | j, m + 1 => byteAt n j :: bytesFrom n (j + 1) m
theorem bytesFrom_len (n : Int) : ∀ m j, (bytesFrom n j m).length = m
  | 0, _ => rfl
  | m + 1, j => by simp [bytesFrom, bytesFrom_len n m (j + 1)]
def putP (w : Nat) : List Int → List Int
  | [] => []
  | n :: l => bytesFrom n 0 w ++ putP w l
theorem putP_len (w : Nat) : ∀ l, (putP w l).length = w * l.length
  | [] => rfl
  | n :: l => by simp [putP, putP_len w l, bytesFrom_len, Nat.mul_add, Nat.add_comm]
theorem shr_byte (n : Int) (j : Nat) (hj : j < 8) : shr .i64 n ((8 * j : Nat) : Int) % 256 = byteAt n j := by
  unfold shr byteAt
  have : min (((8 * j : Nat) : Int)).toNat IntKind.i64.bits = 8 * j := by
    rw [Int.toNat_natCast]
    exact Nat.min_eq_left (show 8 * j ≤ 64 by omega)
  rw [this]
theorem put_loop (w : Nat) (hw : w ≤ 8) (l : List Int) (hl : l.length ≤ 1000000) : ∀ d p, p + d = l.length → ∀ b : List Int, b.length + w * d ≤ 90000000 →
    Ev (fun k => code_put.l0 k b (w : Int) l (l.length : Int) (p : Int)) (b ++ putP w (l.drop p)) := by
  intro d
  induction d with
  | zero =>
    intro p hp b hb
    rw [List.drop_eq_nil_of_le (by omega), putP, List.append_nil]
    exact Ev.step (fun k => by rw [code_put.l0, if_neg (by omega)]) (Ev.now _)
  | succ d ih =>
    intro p hp b hb
    have hlt : p < l.length := by omega
    have hmul : w * (d + 1) = w * d + w := Nat.mul_succ w d
    have e := wn ((p : Int) + 1) (p + 1) (by omega) (by omega)
    rw [List.drop_eq_getElem_cons hlt, putP, ← List.append_assoc]
    have inner : ∀ m j, j + m = w → ∀ c : List Int, c.length + m + w * d ≤ 90000000 →
        Ev (fun k => code_put.l1 k c (w : Int) l[p] l (l.length : Int) (p : Int) (w : Int) (j : Int)) (c ++ bytesFrom l[p] j m ++ putP w (l.drop (p + 1))) := by
      intro m
      induction m with
      | zero =>
        intro j hj c hc
        rw [bytesFrom, List.append_nil]
        refine Ev.step (f := fun k => code_put.l0 k c (w : Int) l (l.length : Int) ((p + 1 : Nat) : Int)) (fun k => by rw [code_put.l1, if_neg (by omega), e]) ?_
        exact ih (p + 1) (by omega) c (by omega)
      | succ m ihm =>
        intro j hj c hc
        have hlen : (c ++ [byteAt l[p] j]).length = c.length + 1 := by simp
        have hih := ihm (j + 1) (by omega) (c ++ [byteAt l[p] j]) (by rw [hlen]; omega)
        have h0 : (0 : Int) ≤ ((8 * j : Nat) : Int) := Int.natCast_nonneg _
        have hlim : c.length < 140737488355328 := by omega
        have hjw : (j : Int) < (w : Int) := by omega
        have a8 : (8 : Int) * (j : Int) = ((8 * j : Nat) : Int) := by omega
        have aj : (j : Int) + 1 = ((j + 1 : Nat) : Int) := by omega
        have b8 : 8 * j ≤ 100000000 := by omega
        have bj : j + 1 ≤ 100000000 := by omega
        have j8 : j < 8 := by omega
        have e8 := wn (8 * (j : Int)) (8 * j) a8 b8
        have ej := wn ((j : Int) + 1) (j + 1) aj bj
        have hbb := shr_byte l[p] j j8
        rw [bytesFrom, List.append_cons c]
        refine Ev.step (f := fun k => code_put.l1 k (c ++ [byteAt l[p] j]) (w : Int) l[p] l (l.length : Int) (p : Int) (w : Int) ((j + 1 : Nat) : Int)) (fun k => ?_) hih
        rw [code_put.l1, if_pos hjw, e8, if_pos h0, if_pos hlim, hbb, ej]
    refine Ev.step (f := fun k => code_put.l1 k b (w : Int) l[p] l (l.length : Int) (p : Int) (w : Int) 0) (fun k => by rw [code_put.l0, if_pos (by omega), if_pos (by omega), if_pos (by omega), rd_get l p hlt]) ?_
    exact inner w 0 (by omega) b (by omega)
theorem put_ev (w : Nat) (hw : w ≤ 8) (l : List Int) (hl : l.length ≤ 1000000) (b : List Int) (hb : b.length + w * l.length ≤ 90000000) : Ev (fun k => code_put.f k b (w : Int) l) (b ++ putP w l) := by
  unfold code_put.f
  exact put_loop w hw l hl l.length 0 (by omega) b hb
theorem put1_ev (l : List Int) (hl : l.length ≤ 1000000) (b : List Int) (hb : b.length + l.length ≤ 90000000) : Ev (fun k => code_put.f k b 1 l) (b ++ putP 1 l) := put_ev 1 (by omega) l hl b (by omega)
theorem put2_ev (l : List Int) (hl : l.length ≤ 1000000) (b : List Int) (hb : b.length + 2 * l.length ≤ 90000000) : Ev (fun k => code_put.f k b 2 l) (b ++ putP 2 l) := put_ev 2 (by omega) l hl b hb
theorem put8_ev (l : List Int) (hl : l.length ≤ 1000000) (b : List Int) (hb : b.length + 8 * l.length ≤ 90000000) : Ev (fun k => code_put.f k b 8 l) (b ++ putP 8 l) := put_ev 8 (by omega) l hl b hb

/-! ### the bytes -/
def instrB (i : S42) : List Int := putP 1 [i.f0] ++ putP 2 [i.f1, i.f2]
def instrsB : List S42 → List Int
  | [] => []
  | i :: l => instrB i ++ instrsB l
def bodyB (f : S40) : List Int := putP 1 [f.f0, f.f1, f.f2] ++ putP 2 [(f.f3.length : Int)] ++ instrsB f.f3
def bodiesB : List S40 → List Int
  | [] => []
  | f :: l => bodyB f ++ bodiesB l
def textB (s : ByteArray) : List Int := putP 1 [(s.size : Int)] ++ bytesOf s
def textsB : List ByteArray → List Int
  | [] => []
  | s :: l => textB s ++ textsB l
def codeB (l0 : List S40) (l1 : List Int) (l2 : List ByteArray) (a3 : Int) : List Int :=
  [83, 77, 49] ++ putP 1 [a3, (l1.length : Int)] ++ putP 8 l1 ++ putP 1 [(l2.length : Int)] ++ textsB l2 ++ putP 1 [(l0.length : Int)] ++ bodiesB l0
theorem instrB_len (i : S42) : (instrB i).length = 5 := by simp [instrB, putP_len]
theorem instrsB_len : ∀ l, (instrsB l).length = 5 * l.length
  | [] => rfl
  | i :: l => by simp [instrsB, instrB_len, instrsB_len l]; omega
theorem bodyB_len (f : S40) : (bodyB f).length = 5 + 5 * f.f3.length := by simp [bodyB, putP_len, instrsB_len]; omega
theorem bytesOf_len (s : ByteArray) : (bytesOf s).length = s.size := by simp [bytesOf]
theorem textB_len (s : ByteArray) : (textB s).length = 1 + s.size := by simp [textB, putP_len, bytesOf_len]
theorem bodiesB_le : ∀ l : List S40, (∀ f ∈ l, f.f3.length ≤ 400) → (bodiesB l).length ≤ 2005 * l.length
  | [], _ => Nat.le_refl _
  | f :: l, h => by
    have h1 := bodiesB_le l (fun g hg => h g (List.mem_cons_of_mem _ hg))
    have h2 := h f List.mem_cons_self
    simp [bodiesB, bodyB_len]; omega
theorem textsB_le : ∀ l : List ByteArray, (∀ s ∈ l, s.size ≤ 60) → (textsB l).length ≤ 61 * l.length
  | [], _ => Nat.le_refl _
  | s :: l, h => by
    have h1 := textsB_le l (fun g hg => h g (List.mem_cons_of_mem _ hg))
    have h2 := h s List.mem_cons_self
    simp [textsB, textB_len]; omega

/-! ### code.Encode -/
theorem enc_l1 (l0 : List S40) (hl : l0.length ≤ 120) (hi : ∀ f ∈ l0, f.f3.length ≤ 400) : ∀ d p, p + d = l0.length → ∀ b : List Int, b.length + 2005 * d ≤ 10000000 →
    Ev (fun k => code_Encode.l1 k b l0 (l0.length : Int) (p : Int)) (b ++ bodiesB (l0.drop p), 0) := by
  intro d
  induction d with
  | zero =>
    intro p hp b hb
    rw [List.drop_eq_nil_of_le (by omega), bodiesB, List.append_nil]
    exact Ev.step (fun k => by rw [code_Encode.l1, if_neg (by omega)]) (Ev.now _)
  | succ d ih =>
    intro p hp b hb
    have hlt : p < l0.length := by omega
    have e := wn ((p : Int) + 1) (p + 1) (by omega) (by omega)
    rw [List.drop_eq_getElem_cons hlt, bodiesB]
    have hfl := hi _ (List.getElem_mem hlt)
    have hg : rd_T40 l0 (p : Int) = l0[p] := rd40_get l0 p hlt
    generalize hf : l0[p] = f at *
    have inner : ∀ m q, q + m = f.f3.length → ∀ c : List Int, c.length + 5 * m + 2005 * d ≤ 10000000 →
        Ev (fun k => code_Encode.l2 k c l0 (l0.length : Int) (p : Int) f.f3 (f.f3.length : Int) (q : Int)) (c ++ instrsB (f.f3.drop q) ++ bodiesB (l0.drop (p + 1)), 0) := by
      intro m
      induction m with
      | zero =>
        intro q hq c hc
        rw [List.drop_eq_nil_of_le (by omega), instrsB, List.append_nil]
        refine Ev.step (f := fun k => code_Encode.l1 k c l0 (l0.length : Int) ((p + 1 : Nat) : Int)) (fun k => by rw [code_Encode.l2, if_neg (by omega), e]) ?_
        exact ih (p + 1) (by omega) c (by omega)
      | succ m ihm =>
        intro q hq c hc
        have hq2 : q < f.f3.length := by omega
        have eq := wn ((q : Int) + 1) (q + 1) (by omega) (by omega)
        rw [List.drop_eq_getElem_cons hq2, instrsB]
        have hgi : rd_T42 f.f3 (q : Int) = f.f3[q] := rd42_get f.f3 q hq2
        generalize hi : f.f3[q] = i at *
        refine Ev.step (f := fun k => (code_put.f k c 1 [i.f0]).bind fun t => (code_put.f k t 2 [i.f1, i.f2]).bind fun t2 => code_Encode.l2 k t2 l0 (l0.length : Int) (p : Int) f.f3 (f.f3.length : Int) ((q + 1 : Nat) : Int)) (fun k => by rw [code_Encode.l2, if_pos (by omega), if_pos (by omega), if_pos (by omega), hgi, eq]) ?_
        refine Ev.bind (put1_ev _ (by simp) _ (by simp; omega)) ?_
        refine Ev.bind (put2_ev _ (by simp) _ (by simp [putP_len]; omega)) ?_
        have := ihm (q + 1) (by omega) (c ++ putP 1 [i.f0] ++ putP 2 [i.f1, i.f2]) (by simp [putP_len]; omega)
        rw [show c ++ (instrB i ++ instrsB (f.f3.drop (q + 1))) = c ++ putP 1 [i.f0] ++ putP 2 [i.f1, i.f2] ++ instrsB (f.f3.drop (q + 1)) by simp [instrB, List.append_assoc]]
        exact this
    refine Ev.step (f := fun k => (code_put.f k b 1 [f.f0, f.f1, f.f2]).bind fun t => (code_put.f k t 2 [(f.f3.length : Int)]).bind fun t2 => code_Encode.l2 k t2 l0 (l0.length : Int) (p : Int) f.f3 (f.f3.length : Int) 0) (fun k => by rw [code_Encode.l1, if_pos (by omega), if_pos (by omega), if_pos (by omega), hg]) ?_
    refine Ev.bind (put1_ev _ (by simp) _ (by simp; omega)) ?_
    refine Ev.bind (put2_ev _ (by simp) _ (by simp [putP_len]; omega)) ?_
    have := inner f.f3.length 0 (by omega) (b ++ putP 1 [f.f0, f.f1, f.f2] ++ putP 2 [(f.f3.length : Int)]) (by simp [putP_len]; omega)
    rw [show b ++ (bodyB f ++ bodiesB (l0.drop (p + 1))) = b ++ putP 1 [f.f0, f.f1, f.f2] ++ putP 2 [(f.f3.length : Int)] ++ instrsB (f.f3.drop 0) ++ bodiesB (l0.drop (p + 1)) by simp [bodyB, List.append_assoc]]
    exact this
theorem enc_l0 (l0 : List S40) (l1 : List Int) (l2 : List ByteArray) (a3 : Int) (hl : l0.length ≤ 120) (hi : ∀ f ∈ l0, f.f3.length ≤ 400) (h2 : l2.length ≤ 120) (hs : ∀ s ∈ l2, s.size ≤ 60) : ∀ d p, p + d = l2.length → ∀ b : List Int, b.length + 61 * d ≤ 1000000 →
    Ev (fun k => code_Encode.l0 k b l2 (l2.length : Int) (p : Int) l0 l1 l2 a3) (b ++ textsB (l2.drop p) ++ putP 1 [(l0.length : Int)] ++ bodiesB l0, 0) := by
  intro d
  induction d with
  | zero =>
    intro p hp b hb
    rw [List.drop_eq_nil_of_le (by omega), textsB, List.append_nil]
    refine Ev.step (f := fun k => (code_put.f k b 1 [(l0.length : Int)]).bind fun t => code_Encode.l1 k t l0 (l0.length : Int) 0) (fun k => by rw [code_Encode.l0, if_neg (by omega)]) ?_
    refine Ev.bind (put1_ev _ (by simp) _ (by simp; omega)) ?_
    exact enc_l1 l0 hl hi l0.length 0 (by omega) _ (by simp [putP_len]; omega)
  | succ d ih =>
    intro p hp b hb
    have hlt : p < l2.length := by omega
    have e := wn ((p : Int) + 1) (p + 1) (by omega) (by omega)
    rw [List.drop_eq_getElem_cons hlt, textsB]
    have hsz := hs _ (List.getElem_mem hlt)
    have hg : rdOf ByteArray.empty l2 (p : Int) = l2[p] := rdOf_get _ l2 p hlt
    generalize hf : l2[p] = s at *
    refine Ev.step (f := fun k => (code_put.f k b 1 [(s.size : Int)]).bind fun t => if t.length + s.size < 140737488355328 then code_Encode.l0 k (t ++ bytesOf s) l2 (l2.length : Int) ((p + 1 : Nat) : Int) l0 l1 l2 a3 else none) (fun k => by rw [code_Encode.l0, if_pos (by omega), if_pos (by omega), if_pos (by omega), hg, e]) ?_
    refine Ev.bind (put1_ev _ (by simp) _ (by simp; omega)) ?_
    refine Ev.congr (fun k => if_pos (by simp [putP_len]; omega)) ?_
    have := ih (p + 1) (by omega) (b ++ putP 1 [(s.size : Int)] ++ bytesOf s) (by simp [putP_len, bytesOf_len]; omega)
    rw [show b ++ (textB s ++ textsB (l2.drop (p + 1))) = b ++ putP 1 [(s.size : Int)] ++ bytesOf s ++ textsB (l2.drop (p + 1)) by simp [textB, List.append_assoc]]
    exact this
theorem may_parts {l0 : List S40} {l1 : List Int} {l2 : List ByteArray} {a3 : Int} (h : mayP l0 l1 l2 a3 = true) : (1 ≤ l0.length ∧ l0.length ≤ 120 ∧ l1.length ≤ 120 ∧ l2.length ≤ 120 ∧ 0 ≤ a3 ∧ a3 ≤ 60) ∧ (∀ f ∈ l0, bodyOk f = true) ∧ (∀ n ∈ l1, intOk n = true) ∧ (∀ s ∈ l2, textOk s = true) := by
  unfold mayP at h
  rw [Bool.and_eq_true, Bool.and_eq_true, Bool.and_eq_true] at h
  obtain ⟨h1, h2, h3, h4⟩ := h
  exact ⟨of_decide_eq_true h1, List.all_eq_true.1 h2, List.all_eq_true.1 h3, List.all_eq_true.1 h4⟩
theorem bodyOk_parts {f : S40} (h : bodyOk f = true) : (0 ≤ f.f0 ∧ f.f0 ≤ 59 ∧ 0 ≤ f.f1 ∧ f.f1 ≤ 60 ∧ 1 ≤ f.f2 ∧ f.f2 ≤ 60 ∧ 1 ≤ f.f3.length ∧ f.f3.length ≤ 400) ∧ (∀ i ∈ f.f3, instrOk i = true) := by
  unfold bodyOk at h
  rw [Bool.and_eq_true] at h
  exact ⟨of_decide_eq_true h.1, List.all_eq_true.1 h.2⟩
/-- What Encode answers. -/
def encP (l0 : List S40) (l1 : List Int) (l2 : List ByteArray) (a3 : Int) : List Int × Int := if mayP l0 l1 l2 a3 = true then (codeB l0 l1 l2 a3, 0) else ([], 1)
theorem enc_ev (l0 : List S40) (l1 : List Int) (l2 : List ByteArray) (a3 : Int) (h0 : l0.length ≤ 1000000) (hi : ∀ f ∈ l0, f.f3.length ≤ 1000000) : Ev (fun k => code_Encode.f k l0 l1 l2 a3) (encP l0 l1 l2 a3) := by
  unfold code_Encode.f encP
  refine Ev.bind (may_ev l0 l1 l2 a3 h0 hi) ?_
  by_cases hm : mayP l0 l1 l2 a3 = true
  · obtain ⟨hp, hb, hn, hs⟩ := may_parts hm
    rw [if_pos hm]
    refine Ev.congr (fun k => if_pos hm) ?_
    have h8 : (putP 8 l1).length = 8 * l1.length := putP_len 8 l1
    refine Ev.bind (put1_ev _ (by simp) _ (by simp)) ?_
    refine Ev.bind (put8_ev _ (by omega) _ (by simp [putP_len]; omega)) ?_
    refine Ev.bind (put1_ev _ (by simp) _ (by simp [putP_len]; omega)) ?_
    exact enc_l0 l0 l1 l2 a3 (by omega) (fun f hf => (bodyOk_parts (hb f hf)).1.2.2.2.2.2.2.2) (by omega) (fun s h => of_decide_eq_true (hs s h)) l2.length 0 (by omega) _ (by simp [putP_len]; omega)
  · rw [if_neg hm]
    exact Ev.congr (fun k => if_neg hm) (Ev.now _)
end Go.Proofs.Ytadbiogchgglpaa.Q
