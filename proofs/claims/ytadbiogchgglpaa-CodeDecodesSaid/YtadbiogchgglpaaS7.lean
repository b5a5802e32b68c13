import Derived.Test.YtadbiogchgglpaaQx25
import Derived.Test.YtadbiogchgglpaaS6
import Derived.Test.YtadbiogchgglpaaS3m
namespace Go.Proofs.Ytadbiogchgglpaa.Q
open Go.RowKit Go.Proofs.YtadbiogchgglpaaW.PrintWords Go.Proofs.YtadbiogchgglpaaW.PrintLast Go.Proofs.YtadbiogchgglpaaW.PrintMore
set_option linter.unusedVariables false
set_option linter.unusedSimpArgs false
set_option linter.unusedSectionVars false
/-! ### the document's reader -/
def In (B : List Int) (I : Int) : Prop := 0 ≤ I ∧ I ≤ (B.length : Int)
theorem nx_in {B : List Int} {I : Int} (h : In B I) (w : Nat) (S : Bool) : In B (nx B w I S).2.1 := by
  unfold nx
  split
  · exact ⟨by show (0 : Int) ≤ (B.length : Int); omega, Int.le_refl _⟩
  · rename_i hn
    rw [List.length_drop] at hn
    have := h.1
    have := h.2
    exact ⟨by show 0 ≤ I + (w : Int); omega, by show I + (w : Int) ≤ (B.length : Int); omega⟩
theorem rd_drop0 (B : List Int) (I : Int) (j : Nat) (h : 0 ≤ I) : rd (B.drop I.toNat) (j : Int) = rd B (I + (j : Int)) := by
  unfold rd
  rw [List.getD_eq_getElem?_getD, List.getD_eq_getElem?_getD, List.getElem?_drop]
  congr 2
  omega
/-- One byte: there is none, or it is this one. -/
theorem nx1_end {B : List Int} {I : Int} (h : In B I) (S : Bool) (he : (B.length : Int) ≤ I) : nx B 1 I S = (0, I, true) := by
  have e : I = (B.length : Int) := by have := h.2; omega
  unfold nx
  rw [if_pos (by rw [List.length_drop]; have := h.1; omega), e]
theorem nx1_on {B : List Int} (hB : Byt B) {I : Int} (h : In B I) (S : Bool) (he : I < (B.length : Int)) : nx B 1 I S = (rd B I, I + 1, S) := by
  have h0 := h.1
  unfold nx
  rw [if_neg (by rw [List.length_drop]; omega)]
  have e : nextN (B.drop I.toNat) 1 0 0 = rd B I := by
    have hr := rd_byt (byt_drop hB I.toNat) (((0 : Nat) : Int))
    have e2 := rd_drop0 B I 0 h0
    rw [next_val (byt_drop hB _) 1 (by omega), vN_small (byt_drop hB _) 1 (by omega)]
    unfold vN vN
    simp only [Nat.mul_zero, Nat.pow_zero, Nat.one_mul, Nat.zero_add]
    rw [e2] at hr ⊢
    have e3 : I + ((0 : Nat) : Int) = I := by omega
    rw [e3] at hr ⊢
    omega
  rw [e]
  rfl
theorem one_f {B : List Int} (hB : Byt B) (hl : B.length ≤ 1000000) {I : Int} (h : In B I) (S : Bool) : zO.f B I S = some (nx B 1 I S) := by
  have h0 := h.1
  have h1 := h.2
  unfold zO.f
  by_cases he : (B.length : Int) ≤ I
  · rw [if_pos he, nx1_end h S he]
  · rw [if_neg he]
    have e1 : wrap64 (I + 1) = I + 1 := w64 _ (by omega) (by omega)
    have e2 : wrap64 (I + 1 - 1) = I := by rw [w64 _ (by omega) (by omega)]; omega
    have hr := rd_byt hB I
    rw [e1, e2, if_pos h0, if_pos (by omega), w64 _ (by omega) (by omega), nx1_on hB h S (by omega)]
/-- Two bytes. -/
def p2 (B : List Int) (I : Int) (S : Bool) : Rd Int := ((nx B 1 I S).1 + 256 * (nx B 1 (nx B 1 I S).2.1 (nx B 1 I S).2.2).1, (nx B 1 (nx B 1 I S).2.1 (nx B 1 I S).2.2).2)
theorem pair_f {B : List Int} (hB : Byt B) (hl : B.length ≤ 1000000) {I : Int} (h : In B I) (S : Bool) : zP.f B I S = some (p2 B I S) := by
  unfold zP.f
  rw [one_f hB hl h, Option.bind_some, one_f hB hl (nx_in h 1 S), Option.bind_some]
  have v1 := nx1_val hB I S
  have v2 := nx1_val hB (nx B 1 I S).2.1 (nx B 1 I S).2.2
  rw [w64 (256 * _) (by omega) (by omega), w64 _ (by omega) (by omega)]
  rfl
/-- Seven bytes, one behind the other: their number, the next one's worth. -/
def p7 (B : List Int) : Nat → Int → Int → Int → Bool → Int × Int × Int × Bool
  | 0, v, m, I, S => (v, m, I, S)
  | d + 1, v, m, I, S => p7 B d (v + (nx B 1 I S).1 * m) (m * 256) (nx B 1 I S).2.1 (nx B 1 I S).2.2
def p8 (B : List Int) (I : Int) (S : Bool) : Rd Int :=
  (if (nx B 1 (p7 B 7 0 1 I S).2.2.1 (p7 B 7 0 1 I S).2.2.2).1 > 127 then (p7 B 7 0 1 I S).1 + ((nx B 1 (p7 B 7 0 1 I S).2.2.1 (p7 B 7 0 1 I S).2.2.2).1 - 256) * (p7 B 7 0 1 I S).2.1 else (p7 B 7 0 1 I S).1 + (nx B 1 (p7 B 7 0 1 I S).2.2.1 (p7 B 7 0 1 I S).2.2.2).1 * (p7 B 7 0 1 I S).2.1, (nx B 1 (p7 B 7 0 1 I S).2.2.1 (p7 B 7 0 1 I S).2.2.2).2)
theorem p7_in {B : List Int} : ∀ (d : Nat) (v m : Int) {I : Int} (_ : In B I) (S : Bool), In B (p7 B d v m I S).2.2.1
  | 0, _, _, _, h, _ => h
  | d + 1, v, m, _, h, S => p7_in d _ _ (nx_in h 1 S) _
theorem p7_m {B : List Int} : ∀ (d : Nat) (v m I : Int) (S : Bool), (p7 B d v m I S).2.1 = m * 256 ^ d
  | 0, _, m, _, _ => by simp [p7]
  | d + 1, v, m, I, S => by
    unfold p7
    rw [p7_m d, Int.mul_assoc, Int.pow_succ', ]
theorem p7_v {B : List Int} (hB : Byt B) : ∀ (d : Nat) (v m I : Int) (S : Bool), 0 ≤ v → v < m → 0 ≤ (p7 B d v m I S).1 ∧ (p7 B d v m I S).1 < m * 256 ^ d
  | 0, v, m, _, _, h0, h1 => by simp [p7]; omega
  | d + 1, v, m, I, S, h0, h1 => by
    have hv := nx1_val hB I S
    unfold p7
    have h2 : 0 ≤ (nx B 1 I S).1 * m := Int.mul_nonneg hv.1 (by omega)
    have h3 : (nx B 1 I S).1 * m ≤ 255 * m := Int.mul_le_mul_of_nonneg_right hv.2 (by omega)
    have h := p7_v hB d (v + (nx B 1 I S).1 * m) (m * 256) (nx B 1 I S).2.1 (nx B 1 I S).2.2 (by omega) (by omega)
    rw [Int.mul_assoc, ← Int.pow_succ'] at h
    exact h
/-! ### the loops of the document's Decode, in plain words -/
def rInts (B : List Int) : Nat → Int → Bool → Rd (List Int)
  | 0, I, S => ([], I, S)
  | n + 1, I, S => ((p8 B I S).1 :: (rInts B n (p8 B I S).2.1 (p8 B I S).2.2).1, (rInts B n (p8 B I S).2.1 (p8 B I S).2.2).2)
def rInstr (B : List Int) (I : Int) (S : Bool) : Rd S42 :=
  (⟨(nx B 1 I S).1, (p2 B (nx B 1 I S).2.1 (nx B 1 I S).2.2).1, (p2 B (p2 B (nx B 1 I S).2.1 (nx B 1 I S).2.2).2.1 (p2 B (nx B 1 I S).2.1 (nx B 1 I S).2.2).2.2).1⟩, (p2 B (p2 B (nx B 1 I S).2.1 (nx B 1 I S).2.2).2.1 (p2 B (nx B 1 I S).2.1 (nx B 1 I S).2.2).2.2).2)
def rInstrs (B : List Int) : Nat → Int → Bool → Rd (List S42)
  | 0, I, S => ([], I, S)
  | n + 1, I, S => if S = true then ([], I, S) else ((rInstr B I S).1 :: (rInstrs B n (rInstr B I S).2.1 (rInstr B I S).2.2).1, (rInstrs B n (rInstr B I S).2.1 (rInstr B I S).2.2).2)
def rHead (B : List Int) (I : Int) (S : Bool) : Int × Int × Int × Rd Int :=
  let a := nx B 1 I S; let b := nx B 1 a.2.1 a.2.2; let c := nx B 1 b.2.1 b.2.2; (a.1, b.1, c.1, p2 B c.2.1 c.2.2)
def rBody (B : List Int) (I : Int) (S : Bool) : Rd S40 :=
  (⟨(rHead B I S).1, (rHead B I S).2.1, (rHead B I S).2.2.1, (rInstrs B (rHead B I S).2.2.2.1.toNat (rHead B I S).2.2.2.2.1 (rHead B I S).2.2.2.2.2).1⟩, (rInstrs B (rHead B I S).2.2.2.1.toNat (rHead B I S).2.2.2.2.1 (rHead B I S).2.2.2.2.2).2)
def rBodies (B : List Int) : Nat → Int → Bool → Rd (List S40)
  | 0, I, S => ([], I, S)
  | n + 1, I, S => ((rBody B I S).1 :: (rBodies B n (rBody B I S).2.1 (rBody B I S).2.2).1, (rBodies B n (rBody B I S).2.1 (rBody B I S).2.2).2)
def rfin (B : List Int) (I : Int) (S : Bool) (fs : List S40) (xs : List Int) (ts : List ByteArray) (a : Int) : Res :=
  if S = true then bad else if I = (B.length : Int) then (if mayP fs xs ts a = true then (fs, xs, ts, a, 0) else bad) else bad
theorem p2_in {B : List Int} {I : Int} (h : In B I) (S : Bool) : In B (p2 B I S).2.1 := nx_in (nx_in h 1 S) 1 _
theorem p8_in {B : List Int} {I : Int} (h : In B I) (S : Bool) : In B (p8 B I S).2.1 := by
  have h7 := p7_in 7 0 1 h S
  unfold p8
  generalize p7 B 7 0 1 I S = q at *
  exact nx_in h7 1 _
section
variable (B : List Int) (hB : Byt B) (hl : B.length ≤ 1000000)
include hB hl
theorem r_l1 (r : Res) (I : Int) (S : Bool) (n i : Int) (acc : List Int) (a : Int) (ha : acc.length ≤ 100000) (h : Ev (fun k => zD.l0 k B n (wrap64 (i + 1)) B (p8 B I S).2.1 (p8 B I S).2.2 (acc ++ [(p8 B I S).1]) a) r) (hI : In B I) :
    Ev (fun k => zD.l1 k B n i 0 1 0 B I S acc a) r := by
  have key : ∀ (d : Nat) (j : Nat) (v m : Int) (I' : Int) (S' : Bool), j + d = 7 → In B I' → 0 ≤ v → v < m → m * 256 ^ d = 256 ^ 7 → p7 B d v m I' S' = p7 B 7 0 1 I S →
      Ev (fun k => zD.l1 k B n i v m (j : Int) B I' S' acc a) r := by
    intro d
    induction d with
    | zero =>
      intro j v m I' S' hj hI' hv0 hvm hm hp
      have hm7 : m = 72057594037927936 := by
        have : (256 : Int) ^ 7 = 72057594037927936 := by decide +kernel
        rw [this] at hm
        simpa using hm
      have hq : p7 B 0 v m I' S' = (v, m, I', S') := rfl
      rw [hq] at hp
      have ht := nx1_val hB I' S'
      have e8 : p8 B I S = (if (nx B 1 I' S').1 > 127 then v + ((nx B 1 I' S').1 - 256) * m else v + (nx B 1 I' S').1 * m, (nx B 1 I' S').2) := by
        unfold p8
        generalize p7 B 7 0 1 I S = q at *
        subst hp
        rfl
      rw [e8] at h
      subst hm7
      refine Ev.step (f := fun k => zD.l0 k B n (wrap64 (i + 1)) B (nx B 1 I' S').2.1 (nx B 1 I' S').2.2 (acc ++ [(if (nx B 1 I' S').1 > 127 then v + ((nx B 1 I' S').1 - 256) * 72057594037927936 else v + (nx B 1 I' S').1 * 72057594037927936)]) a) (fun k => by
        rw [zD.l1, if_neg (by omega), one_f hB hl hI', Option.bind_some]
        by_cases hc : (nx B 1 I' S').1 > 127
        · rw [if_pos hc, if_pos (by omega), if_pos hc, w64 ((nx B 1 I' S').1 - 256) (by omega) (by omega), w64 (((nx B 1 I' S').1 - 256) * 72057594037927936) (by omega) (by omega), w64 (v + ((nx B 1 I' S').1 - 256) * 72057594037927936) (by omega) (by omega)]
        · rw [if_neg hc, if_pos (by omega), if_neg hc, w64 ((nx B 1 I' S').1 * 72057594037927936) (by omega) (by omega), w64 (v + (nx B 1 I' S').1 * 72057594037927936) (by omega) (by omega)]) ?_
      exact h
    | succ d ih =>
      intro j v m I' S' hj hI' hv0 hvm hm hp
      have ht := nx1_val hB I' S'
      have e := wn ((j : Int) + 1) (j + 1) (by omega) (by omega)
      have hpd : (0 : Int) < 256 ^ d := Int.pow_pos (by decide)
      have hm2 : m * 256 * 256 ^ d = 256 ^ 7 := by rw [Int.mul_assoc, ← Int.pow_succ']; exact hm
      have hmb : m * 256 ≤ 72057594037927936 := by
        have e7 : (256 : Int) ^ 7 = 72057594037927936 := by decide +kernel
        rw [e7] at hm2
        have : m * 256 * 1 ≤ m * 256 * 256 ^ d := Int.mul_le_mul_of_nonneg_left (by omega) (by omega)
        omega
      have h2 : 0 ≤ (nx B 1 I' S').1 * m := Int.mul_nonneg ht.1 (by omega)
      have h3 : (nx B 1 I' S').1 * m ≤ 255 * m := Int.mul_le_mul_of_nonneg_right ht.2 (by omega)
      refine Ev.step (f := fun k => zD.l1 k B n i (v + (nx B 1 I' S').1 * m) (m * 256) ((j + 1 : Nat) : Int) B (nx B 1 I' S').2.1 (nx B 1 I' S').2.2 acc a) (fun k => by
        rw [zD.l1, if_pos (by omega), one_f hB hl hI', Option.bind_some, w64 ((nx B 1 I' S').1 * m) (by omega) (by omega), w64 (v + _) (by omega) (by omega), w64 (m * 256) (by omega) (by omega), e]) ?_
      exact ih (j + 1) _ _ _ _ (by omega) (nx_in hI' 1 S') (by omega) (by omega) hm2 hp
  exact key 7 0 0 1 I S (by omega) hI (by omega) (by omega) (by rw [Int.one_mul]) rfl
theorem rInts_in : ∀ (m : Nat) {I : Int} (_ : In B I) (S : Bool), In B (rInts B m I S).2.1
  | 0, _, h, _ => h
  | m + 1, _, h, S => rInts_in m (p8_in h S) _
theorem dBytes_in : ∀ (m : Nat) {I : Int} (_ : In B I) (S : Bool), In B (dBytes B m I S).2.1
  | 0, _, h, _ => h
  | m + 1, _, h, S => dBytes_in m (nx_in h 1 S) _
theorem dText_in {I : Int} (h : In B I) (S : Bool) : In B (dText B I S).2.1 := dBytes_in B hB hl _ (nx_in h 1 S) _
theorem dTexts_in : ∀ (m : Nat) {I : Int} (_ : In B I) (S : Bool), In B (dTexts B m I S).2.1
  | 0, _, h, _ => h
  | m + 1, _, h, S => dTexts_in m (dText_in B hB hl h S) _
theorem rInstr_in {I : Int} (h : In B I) (S : Bool) : In B (rInstr B I S).2.1 := p2_in (p2_in (nx_in h 1 S) _) _
theorem rInstrs_in : ∀ (m : Nat) {I : Int} (_ : In B I) (S : Bool), In B (rInstrs B m I S).2.1
  | 0, _, h, _ => h
  | m + 1, _, h, S => by
    unfold rInstrs
    split
    · exact h
    · exact rInstrs_in m (rInstr_in B hB hl h S) _
theorem rHead_in {I : Int} (h : In B I) (S : Bool) : In B (rHead B I S).2.2.2.2.1 := p2_in (nx_in (nx_in (nx_in h 1 S) 1 _) 1 _) _
theorem rBody_in {I : Int} (h : In B I) (S : Bool) : In B (rBody B I S).2.1 := rInstrs_in B hB hl _ (rHead_in B hB hl h S) _
theorem rInstrs_len : ∀ (m : Nat) (I : Int) (S : Bool), (rInstrs B m I S).1.length ≤ m
  | 0, _, _ => Nat.le_refl _
  | m + 1, I, S => by
    unfold rInstrs
    split
    · exact Nat.zero_le _
    · have := rInstrs_len m (rInstr B I S).2.1 (rInstr B I S).2.2
      simp only [List.length_cons]
      omega
theorem r_l0 (r : Res) (a : Int) : ∀ (m i n : Nat) (I : Int) (S : Bool) (acc : List Int), i + m = n → n ≤ 300 → acc.length + m ≤ 1000 → In B I →
    Ev (fun k => zD.l2 k B (nx B 1 (rInts B m I S).2.1 (rInts B m I S).2.2).1 0 B (nx B 1 (rInts B m I S).2.1 (rInts B m I S).2.2).2.1 (nx B 1 (rInts B m I S).2.1 (rInts B m I S).2.2).2.2 (acc ++ (rInts B m I S).1) [] a) r →
    Ev (fun k => zD.l0 k B (n : Int) (i : Int) B I S acc a) r := by
  intro m
  induction m with
  | zero =>
    intro i n I S acc hi hn ha hI h
    refine Ev.step (f := fun k => zD.l2 k B (nx B 1 I S).1 0 B (nx B 1 I S).2.1 (nx B 1 I S).2.2 acc [] a) (fun k => by rw [zD.l0, if_neg (by omega), one_f hB hl hI]; rfl) ?_
    simpa [rInts] using h
  | succ m ih =>
    intro i n I S acc hi hn ha hI h
    have e := wn ((i : Int) + 1) (i + 1) (by omega) (by omega)
    refine Ev.step (f := fun k => zD.l1 k B (n : Int) (i : Int) 0 1 0 B I S acc a) (fun k => by rw [zD.l0, if_pos (by omega)]) ?_
    refine r_l1 B hB hl r I S (n : Int) (i : Int) acc a (by omega) ?_ hI
    rw [e]
    refine ih (i + 1) n _ _ _ (by omega) hn (by simp; omega) (p8_in hI S) ?_
    simpa [rInts, List.append_assoc] using h
theorem r_l3 (r : Res) (a : Int) (xs : List Int) (ts : List ByteArray) (x44 x45 : Int) : ∀ (m i n : Nat) (I : Int) (S : Bool) (acc : List Int), i + m = n → n ≤ 300 → acc.length + m ≤ 1000 → ts.length ≤ 1000 → In B I →
    Ev (fun k => zD.l2 k B x44 (wrap64 (x45 + 1)) B (dBytes B m I S).2.1 (dBytes B m I S).2.2 xs (ts ++ [strOfNums (acc ++ (dBytes B m I S).1)]) a) r →
    Ev (fun k => zD.l3 k B x44 x45 (n : Int) acc (i : Int) B I S xs ts a) r := by
  intro m
  induction m with
  | zero =>
    intro i n I S acc hi hn ha ht hI h
    refine Ev.step (f := fun k => zD.l2 k B x44 (wrap64 (x45 + 1)) B I S xs (ts ++ [strOfNums acc]) a) (fun k => by rw [zD.l3, if_neg (by omega), if_pos (by omega)]) ?_
    simpa [dBytes] using h
  | succ m ih =>
    intro i n I S acc hi hn ha ht hI h
    have e := wn ((i : Int) + 1) (i + 1) (by omega) (by omega)
    refine Ev.step (f := fun k => zD.l3 k B x44 x45 (n : Int) (acc ++ [(nx B 1 I S).1 % 256]) ((i + 1 : Nat) : Int) B (nx B 1 I S).2.1 (nx B 1 I S).2.2 xs ts a) (fun k => by rw [zD.l3, if_pos (by omega), one_f hB hl hI, Option.bind_some, if_pos (by omega), e]) ?_
    refine ih (i + 1) n _ _ _ (by omega) hn (by simp; omega) ht (nx_in hI 1 S) ?_
    simpa [dBytes, List.append_assoc] using h
theorem r_l2 (r : Res) (a : Int) (xs : List Int) : ∀ (m i n : Nat) (I : Int) (S : Bool) (acc : List ByteArray), i + m = n → n ≤ 300 → acc.length + m ≤ 1000 → In B I →
    Ev (fun k => zD.l4 k B (nx B 1 (dTexts B m I S).2.1 (dTexts B m I S).2.2).1 0 B (nx B 1 (dTexts B m I S).2.1 (dTexts B m I S).2.2).2.1 (nx B 1 (dTexts B m I S).2.1 (dTexts B m I S).2.2).2.2 [] xs (acc ++ (dTexts B m I S).1) a) r →
    Ev (fun k => zD.l2 k B (n : Int) (i : Int) B I S xs acc a) r := by
  intro m
  induction m with
  | zero =>
    intro i n I S acc hi hn ha hI h
    refine Ev.step (f := fun k => zD.l4 k B (nx B 1 I S).1 0 B (nx B 1 I S).2.1 (nx B 1 I S).2.2 [] xs acc a) (fun k => by rw [zD.l2, if_neg (by omega), one_f hB hl hI]; rfl) ?_
    simpa [dTexts] using h
  | succ m ih =>
    intro i n I S acc hi hn ha hI h
    have e := wn ((i : Int) + 1) (i + 1) (by omega) (by omega)
    have hv := nx1_val hB I S
    refine Ev.step (f := fun k => zD.l3 k B (n : Int) (i : Int) (((nx B 1 I S).1.toNat : Nat) : Int) [] ((0 : Nat) : Int) B (nx B 1 I S).2.1 (nx B 1 I S).2.2 xs acc a) (fun k => by rw [zD.l2, if_pos (by omega), one_f hB hl hI, Option.bind_some, ← cnt_nat hv.1]; rfl) ?_
    refine r_l3 B hB hl r a xs acc (n : Int) (i : Int) (nx B 1 I S).1.toNat 0 _ _ _ [] (by omega) (by omega) (by simp; omega) (by omega) (nx_in hI 1 S) ?_
    rw [e]
    refine ih (i + 1) n _ _ _ (by omega) hn (by simp; omega) (dText_in B hB hl hI S) ?_
    simpa [dTexts, dText, List.append_assoc] using h
theorem r_l5 (r : Res) (a : Int) (xs : List Int) (ts : List ByteArray) (fs : List S40) (x67 x68 h0 h1 h2 : Int) : ∀ (m i n : Nat) (I : Int) (S : Bool) (acc : List S42), i + m = n → n ≤ 70000 → acc.length + m ≤ 100000 → fs.length ≤ 1000 → In B I →
    Ev (fun k => zD.l4 k B x67 (wrap64 (x68 + 1)) B (rInstrs B m I S).2.1 (rInstrs B m I S).2.2 (fs ++ [⟨h0, h1, h2, acc ++ (rInstrs B m I S).1⟩]) xs ts a) r →
    Ev (fun k => zD.l5 k B x67 x68 (n : Int) (i : Int) B I S fs xs ts a h0 h1 h2 acc) r := by
  intro m
  have out : ∀ (n i : Int) (I : Int) (S : Bool) (acc : List S42), fs.length ≤ 1000 → Ev (fun k => zD.l4 k B x67 (wrap64 (x68 + 1)) B I S (fs ++ [⟨h0, h1, h2, acc⟩]) xs ts a) r → Ev (fun k => zD.j7 k B x67 x68 n i false B I S fs xs ts a h0 h1 h2 acc) r := by
    intro n i I S acc hf h
    refine Ev.step (fun k => ?_) h
    rw [zD.j7, if_neg (by decide), if_pos (by omega)]
  induction m with
  | zero =>
    intro i n I S acc hi hn ha hf hI h
    refine Ev.step (f := fun k => zD.j7 k B x67 x68 (n : Int) (i : Int) false B I S fs xs ts a h0 h1 h2 acc) (fun k => by rw [zD.l5, if_neg (by omega)]) ?_
    refine out _ _ _ _ _ hf ?_
    simpa [rInstrs] using h
  | succ m ih =>
    intro i n I S acc hi hn ha hf hI h
    have e := wn ((i : Int) + 1) (i + 1) (by omega) (by omega)
    refine Ev.step (f := fun k => zD.j7 k B x67 x68 (n : Int) (i : Int) (!S) B I S fs xs ts a h0 h1 h2 acc) (fun k => by rw [zD.l5, if_pos (by omega)]) ?_
    cases S
    · refine Ev.step (f := fun k => zD.l5 k B x67 x68 (n : Int) ((i + 1 : Nat) : Int) B (rInstr B I false).2.1 (rInstr B I false).2.2 fs xs ts a h0 h1 h2 (acc ++ [(rInstr B I false).1])) (fun k => by rw [zD.j7, if_pos (by decide), one_f hB hl hI, Option.bind_some, pair_f hB hl (nx_in hI 1 false), Option.bind_some, pair_f hB hl (p2_in (nx_in hI 1 false) _), Option.bind_some, if_pos (by omega), e]; rfl) ?_
      refine ih (i + 1) n _ _ _ (by omega) hn (by simp; omega) hf (rInstr_in B hB hl hI false) ?_
      simpa [rInstrs, List.append_assoc] using h
    · refine out _ _ _ _ _ hf ?_
      simpa [rInstrs] using h
theorem p2_val (I : Int) (S : Bool) : 0 ≤ (p2 B I S).1 ∧ (p2 B I S).1 ≤ 65535 := by
  have v1 := nx1_val hB I S
  have v2 := nx1_val hB (nx B 1 I S).2.1 (nx B 1 I S).2.2
  unfold p2
  exact ⟨by show 0 ≤ (nx B 1 I S).1 + 256 * (nx B 1 (nx B 1 I S).2.1 (nx B 1 I S).2.2).1; omega, by show (nx B 1 I S).1 + 256 * (nx B 1 (nx B 1 I S).2.1 (nx B 1 I S).2.2).1 ≤ 65535; omega⟩
theorem r_l4 (xs : List Int) (ts : List ByteArray) (a : Int) : ∀ (m i n : Nat) (I : Int) (S : Bool) (acc : List S40), i + m = n → n ≤ 300 → acc.length + m ≤ 1000 → (∀ f ∈ acc, f.f3.length ≤ 100000) → In B I →
    Ev (fun k => zD.l4 k B (n : Int) (i : Int) B I S acc xs ts a) (rfin B (rBodies B m I S).2.1 (rBodies B m I S).2.2 (acc ++ (rBodies B m I S).1) xs ts a) := by
  intro m
  induction m with
  | zero =>
    intro i n I S acc hi hn ha hf hI
    have e0 : rfin B (rBodies B 0 I S).2.1 (rBodies B 0 I S).2.2 (acc ++ (rBodies B 0 I S).1) xs ts a = rfin B I S acc xs ts a := by simp [rBodies]
    rw [e0]
    refine Ev.step (f := fun k => (zM.f k acc xs ts a).bind fun t => (if S = true then (some bad) else (if I = (B.length : Int) then (if t = true then (some (acc, xs, ts, a, 0)) else (some bad)) else (some bad)))) (fun k => by rw [zD.l4, if_neg (by omega)]; rfl) ?_
    refine Ev.bind (rmay_ev acc xs ts a (by omega) (fun f hm => by have := hf f hm; omega)) ?_
    unfold rfin
    by_cases hS : S = true
    · refine Ev.congr (fun k => if_pos hS) ?_
      rw [if_pos hS]
      exact Ev.now _
    · refine Ev.congr (fun k => if_neg hS) ?_
      rw [if_neg hS]
      by_cases hd : I = (B.length : Int)
      · refine Ev.congr (fun k => if_pos hd) ?_
        rw [if_pos hd]
        by_cases hm : mayP acc xs ts a = true
        · refine Ev.congr (fun k => if_pos hm) ?_
          rw [if_pos hm]
          exact Ev.now _
        · refine Ev.congr (fun k => if_neg hm) ?_
          rw [if_neg hm]
          exact Ev.now _
      · refine Ev.congr (fun k => if_neg hd) ?_
        rw [if_neg hd]
        exact Ev.now _
  | succ m ih =>
    intro i n I S acc hi hn ha hf hI
    have e := wn ((i : Int) + 1) (i + 1) (by omega) (by omega)
    have hc : 0 ≤ (rHead B I S).2.2.2.1 ∧ (rHead B I S).2.2.2.1 ≤ 65535 := p2_val B hB hl _ _
    refine Ev.step (f := fun k => zD.l5 k B (n : Int) (i : Int) (((rHead B I S).2.2.2.1.toNat : Nat) : Int) ((0 : Nat) : Int) B (rHead B I S).2.2.2.2.1 (rHead B I S).2.2.2.2.2 acc xs ts a (rHead B I S).1 (rHead B I S).2.1 (rHead B I S).2.2.1 []) (fun k => by rw [zD.l4, if_pos (by omega), one_f hB hl hI, Option.bind_some, one_f hB hl (nx_in hI 1 S), Option.bind_some, one_f hB hl (nx_in (nx_in hI 1 S) 1 _), Option.bind_some, pair_f hB hl (nx_in (nx_in (nx_in hI 1 S) 1 _) 1 _), Option.bind_some, ← cnt_nat hc.1]; rfl) ?_
    refine r_l5 B hB hl _ a xs ts acc (n : Int) (i : Int) _ _ _ (rHead B I S).2.2.2.1.toNat 0 _ _ _ [] (by omega) (by omega) (by simp; omega) (by omega) (rHead_in B hB hl hI S) ?_
    rw [e]
    have hl2 := rInstrs_len B hB hl (rHead B I S).2.2.2.1.toNat (rHead B I S).2.2.2.2.1 (rHead B I S).2.2.2.2.2
    have := ih (i + 1) n (rBody B I S).2.1 (rBody B I S).2.2 (acc ++ [(rBody B I S).1]) (by omega) hn (by simp; omega) (by
      intro f hm
      rcases List.mem_append.1 hm with hm | hm
      · exact hf f hm
      · rw [List.mem_singleton.1 hm]
        unfold rBody
        simp only
        omega) (rBody_in B hB hl hI S)
    rw [List.append_assoc] at this
    simp only [List.nil_append]
    exact this
end
end Go.Proofs.Ytadbiogchgglpaa.Q
