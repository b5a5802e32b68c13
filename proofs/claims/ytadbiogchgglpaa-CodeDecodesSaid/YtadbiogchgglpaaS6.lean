import Derived.Test.YtadbiogchgglpaaQx23
import Derived.Test.YtadbiogchgglpaaS2
namespace Go.Proofs.Ytadbiogchgglpaa.Q
open Go.RowKit Go.Proofs.YtadbiogchgglpaaW.PrintWords Go.Proofs.YtadbiogchgglpaaW.PrintLast Go.Proofs.YtadbiogchgglpaaW.PrintMore
set_option linter.unusedVariables false
set_option linter.unusedSimpArgs false
set_option linter.unusedSectionVars false
/-! ### what code.Decode reads, in plain words: a place I in B, and whether it was short -/
abbrev Rd (α : Type) := α × Int × Bool
/-- The next w bytes. -/
def nx (B : List Int) (w : Nat) (I : Int) (S : Bool) : Rd Int := if ((B.drop I.toNat).length : Int) < (w : Int) then (0, (B.length : Int), true) else (nextN (B.drop I.toNat) w 0 0, I + (w : Int), S)
theorem nx_f (B : List Int) (w : Nat) (I : Int) (S : Bool) (h : w ≤ 8) : cD1.f (w : Int) B I S = some (nx B w I S) := by
  unfold cD1.f nx
  rw [if_pos (by omega), Int.toNat_natCast]
  split <;> rfl
theorem nx_1 (B : List Int) (I : Int) (S : Bool) : cD1.f 1 B I S = some (nx B 1 I S) := nx_f B 1 I S (by omega)
theorem nx_2 (B : List Int) (I : Int) (S : Bool) : cD1.f 2 B I S = some (nx B 2 I S) := nx_f B 2 I S (by omega)
theorem nx_8 (B : List Int) (I : Int) (S : Bool) : cD1.f 8 B I S = some (nx B 8 I S) := nx_f B 8 I S (by omega)
def dInts (B : List Int) : Nat → Int → Bool → Rd (List Int)
  | 0, I, S => ([], I, S)
  | n + 1, I, S => ((nx B 8 I S).1 :: (dInts B n (nx B 8 I S).2.1 (nx B 8 I S).2.2).1, (dInts B n (nx B 8 I S).2.1 (nx B 8 I S).2.2).2)
def dBytes (B : List Int) : Nat → Int → Bool → Rd (List Int)
  | 0, I, S => ([], I, S)
  | n + 1, I, S => ((nx B 1 I S).1 % 256 :: (dBytes B n (nx B 1 I S).2.1 (nx B 1 I S).2.2).1, (dBytes B n (nx B 1 I S).2.1 (nx B 1 I S).2.2).2)
def dText (B : List Int) (I : Int) (S : Bool) : Rd ByteArray := (strOfNums (dBytes B (nx B 1 I S).1.toNat (nx B 1 I S).2.1 (nx B 1 I S).2.2).1, (dBytes B (nx B 1 I S).1.toNat (nx B 1 I S).2.1 (nx B 1 I S).2.2).2)
def dTexts (B : List Int) : Nat → Int → Bool → Rd (List ByteArray)
  | 0, I, S => ([], I, S)
  | n + 1, I, S => ((dText B I S).1 :: (dTexts B n (dText B I S).2.1 (dText B I S).2.2).1, (dTexts B n (dText B I S).2.1 (dText B I S).2.2).2)
def dInstr (B : List Int) (I : Int) (S : Bool) : Rd S42 :=
  (⟨(nx B 1 I S).1, (nx B 2 (nx B 1 I S).2.1 (nx B 1 I S).2.2).1, (nx B 2 (nx B 2 (nx B 1 I S).2.1 (nx B 1 I S).2.2).2.1 (nx B 2 (nx B 1 I S).2.1 (nx B 1 I S).2.2).2.2).1⟩, (nx B 2 (nx B 2 (nx B 1 I S).2.1 (nx B 1 I S).2.2).2.1 (nx B 2 (nx B 1 I S).2.1 (nx B 1 I S).2.2).2.2).2)
def dInstrs (B : List Int) : Nat → Int → Bool → Rd (List S42)
  | 0, I, S => ([], I, S)
  | n + 1, I, S => if S = true then ([], I, S) else ((dInstr B I S).1 :: (dInstrs B n (dInstr B I S).2.1 (dInstr B I S).2.2).1, (dInstrs B n (dInstr B I S).2.1 (dInstr B I S).2.2).2)
/-- Kept, Locals, Stack, the number of instructions. -/
def dHead (B : List Int) (I : Int) (S : Bool) : Int × Int × Int × Rd Int :=
  let a := nx B 1 I S; let b := nx B 1 a.2.1 a.2.2; let c := nx B 1 b.2.1 b.2.2; (a.1, b.1, c.1, nx B 2 c.2.1 c.2.2)
def dBody (B : List Int) (I : Int) (S : Bool) : Rd S40 :=
  (⟨(dHead B I S).1, (dHead B I S).2.1, (dHead B I S).2.2.1, (dInstrs B (dHead B I S).2.2.2.1.toNat (dHead B I S).2.2.2.2.1 (dHead B I S).2.2.2.2.2).1⟩, (dInstrs B (dHead B I S).2.2.2.1.toNat (dHead B I S).2.2.2.2.1 (dHead B I S).2.2.2.2.2).2)
def dBodies (B : List Int) : Nat → Int → Bool → Rd (List S40)
  | 0, I, S => ([], I, S)
  | n + 1, I, S => ((dBody B I S).1 :: (dBodies B n (dBody B I S).2.1 (dBody B I S).2.2).1, (dBodies B n (dBody B I S).2.1 (dBody B I S).2.2).2)
abbrev Res := (List (S40)) × List Int × List ByteArray × Int × Int
def bad : Res := ([], [], [], 0, 31)
def fin (B : List Int) (I : Int) (S : Bool) (fs : List S40) (xs : List Int) (ts : List ByteArray) (a : Int) : Res :=
  if S = true then bad else if ((B.drop I.toNat).length : Int) > 0 then bad else if mayP fs xs ts a = true then (fs, xs, ts, a, 0) else bad
/-! ### counts -/
def Byt (B : List Int) : Prop := ∀ x ∈ B, 0 ≤ x ∧ x ≤ 255
theorem rd_byt {B : List Int} (h : Byt B) (i : Int) : 0 ≤ rd B i ∧ rd B i ≤ 255 := by
  unfold rd
  rw [List.getD_eq_getElem?_getD]
  by_cases hi : i.toNat < B.length
  · rw [List.getElem?_eq_getElem hi]
    exact h _ (List.getElem_mem hi)
  · rw [List.getElem?_eq_none (by omega)]
    exact ⟨Int.le_refl _, by decide⟩
theorem byt_drop {B : List Int} (h : Byt B) (n : Nat) : Byt (B.drop n) := fun x hx => h x (List.mem_of_mem_drop hx)
theorem bits_zero_or (x : Int) (h0 : 0 ≤ x) (h1 : x ≤ 255) : Go.bits .or .i64 0 x = x := by
  have h : ∀ c : Fin 256, Go.bits .or .i64 0 (c.val : Int) = (c.val : Int) := by decide +kernel
  have e := h ⟨x.toNat, by omega⟩
  have e2 : ((x.toNat : Nat) : Int) = x := by omega
  simpa [e2] using e
theorem nx1_val {B : List Int} (h : Byt B) (I : Int) (S : Bool) : 0 ≤ (nx B 1 I S).1 ∧ (nx B 1 I S).1 ≤ 255 := by
  unfold nx
  split
  · exact ⟨Int.le_refl _, (by decide : (0 : Int) ≤ 255)⟩
  · have hr := rd_byt (byt_drop h I.toNat) 0
    have e : nextN (B.drop I.toNat) 1 0 0 = rd (B.drop I.toNat) 0 := by
      unfold nextN nextN
      have e0 : wrap64 (rd (B.drop I.toNat) ((0 : Nat) : Int)) = rd (B.drop I.toNat) 0 := w64 _ (by show _ ≤ rd _ 0; omega) (by show rd _ 0 ≤ _; omega)
      rw [e0]
      simp only [Nat.mul_zero, Int.pow_zero, Int.mul_one]
      rw [w64 _ (by omega) (by omega)]
      exact bits_zero_or _ hr.1 hr.2
    show 0 ≤ nextN (B.drop I.toNat) 1 0 0 ∧ nextN (B.drop I.toNat) 1 0 0 ≤ 255
    rw [e]
    exact hr
theorem ofInt_wrap (x : Int) : BitVec.ofInt 64 (wrap64 x) = BitVec.ofInt 64 x := by
  apply BitVec.eq_of_toNat_eq
  simp only [BitVec.toNat_ofInt]
  unfold wrap64
  omega
theorem bits_or_byte (a c i : Nat) (ha : a < 2 ^ (8 * i)) (hc : c ≤ 255) (hi : i ≤ 7) : Go.bits .or .i64 (a : Int) (wrap64 ((c : Int) * 2 ^ (8 * i))) = wrap64 ((a + 2 ^ (8 * i) * c : Nat) : Int) := by
  have h1 : ((c : Int) * 2 ^ (8 * i)) = ((2 ^ (8 * i) * c : Nat) : Int) := by rw [Int.natCast_mul, Int.mul_comm]; simp
  have hp : 2 ^ (8 * i) * 256 ≤ 2 ^ 64 := by
    have : 2 ^ (8 * i) ≤ 2 ^ 56 := Nat.pow_le_pow_right (by decide) (by omega)
    omega
  have hcb : 2 ^ (8 * i) * c < 2 ^ 64 := Nat.lt_of_lt_of_le (Nat.mul_lt_mul_of_pos_left (show c < 256 by omega) (Nat.two_pow_pos _)) hp
  have hab : a < 2 ^ 64 := by
    have : 2 ^ (8 * i) ≤ 2 ^ 56 := Nat.pow_le_pow_right (by decide) (by omega)
    omega
  show IntKind.i64.wrap (((BitVec.ofInt 64 (a : Int)) ||| (BitVec.ofInt 64 (wrap64 ((c : Int) * 2 ^ (8 * i))))).toNat : Int) = _
  rw [ofInt_wrap, h1, BitVec.ofInt_natCast, BitVec.ofInt_natCast, BitVec.toNat_or, BitVec.toNat_ofNat, BitVec.toNat_ofNat, Nat.mod_eq_of_lt hab, Nat.mod_eq_of_lt hcb, Nat.or_comm, ← Nat.two_pow_add_eq_or_of_lt ha c, Nat.add_comm]
  unfold wrap64
  exact IntKind.wrap_i64 _
/-- The first j bytes as a number. -/
def vN (l : List Int) : Nat → Nat
  | 0 => 0
  | j + 1 => vN l j + 2 ^ (8 * j) * (rd l (j : Int)).toNat
theorem pow_step (j : Nat) : (2 : Nat) ^ (8 * (j + 1)) = 2 ^ (8 * j) * 256 := by
  rw [Nat.mul_add, Nat.pow_add]
theorem vN_lt {l : List Int} (h : Byt l) : ∀ j, vN l j < 2 ^ (8 * j)
  | 0 => Nat.two_pow_pos _
  | j + 1 => by
    have h1 := vN_lt h j
    have h2 := rd_byt h (j : Int)
    have h3 : (rd l (j : Int)).toNat ≤ 255 := by omega
    have h4 : 2 ^ (8 * j) * (rd l (j : Int)).toNat ≤ 2 ^ (8 * j) * 255 := Nat.mul_le_mul_left _ h3
    rw [pow_step]
    unfold vN
    omega
theorem vN_small {l : List Int} (h : Byt l) (j : Nat) (hj : j ≤ 7) : wrap64 ((vN l j : Nat) : Int) = ((vN l j : Nat) : Int) := by
  have h1 := vN_lt h j
  have h2 : 2 ^ (8 * j) ≤ 2 ^ 56 := Nat.pow_le_pow_right (by decide) (by omega)
  exact w64 _ (by omega) (by omega)
theorem nextN_val {l : List Int} (h : Byt l) : ∀ (m i : Nat), i + m ≤ 8 → nextN l m i (wrap64 ((vN l i : Nat) : Int)) = wrap64 ((vN l (i + m) : Nat) : Int)
  | 0, i, _ => rfl
  | m + 1, i, hi => by
    have hr := rd_byt h (i : Int)
    have e0 : wrap64 (rd l (i : Int)) = (((rd l (i : Int)).toNat : Nat) : Int) := by rw [w64 _ (by omega) (by omega)]; omega
    unfold nextN
    rw [e0, vN_small h i (by omega), bits_or_byte _ _ i (vN_lt h i) (by omega) (by omega)]
    have e1 : vN l i + 2 ^ (8 * i) * (rd l (i : Int)).toNat = vN l (i + 1) := rfl
    rw [e1, nextN_val h m (i + 1) (by omega), show i + 1 + m = i + (m + 1) by omega]
theorem next_val {l : List Int} (h : Byt l) (w : Nat) (hw : w ≤ 8) : nextN l w 0 0 = wrap64 ((vN l w : Nat) : Int) := by
  have := nextN_val h w 0 (by omega)
  have e : wrap64 ((vN l 0 : Nat) : Int) = 0 := w64 0 (by decide) (by decide)
  rw [Nat.zero_add, e] at this
  exact this
theorem nx_small {B : List Int} (h : Byt B) (w : Nat) (hw : w ≤ 7) (I : Int) (S : Bool) : 0 ≤ (nx B w I S).1 ∧ (nx B w I S).1 < ((2 ^ (8 * w) : Nat) : Int) := by
  have hp := Nat.two_pow_pos (8 * w)
  unfold nx
  split
  · exact ⟨Int.le_refl _, (by show (0 : Int) < ((2 ^ (8 * w) : Nat) : Int); omega)⟩
  · show 0 ≤ nextN (B.drop I.toNat) w 0 0 ∧ nextN (B.drop I.toNat) w 0 0 < ((2 ^ (8 * w) : Nat) : Int)
    rw [next_val (byt_drop h _) w (by omega), vN_small (byt_drop h _) w hw]
    have := vN_lt (byt_drop h I.toNat) w
    omega
section
variable (B : List Int) (hB : Byt B)
/-! ### the loops of code.Decode -/
theorem d_l0 (r : Res) (a : Int) : ∀ (m i n : Nat) (I : Int) (S : Bool) (acc : List Int), i + m = n → n ≤ 300 → acc.length + m ≤ 1000 →
    Ev (fun k => cD.l1 k (nx B 1 (dInts B m I S).2.1 (dInts B m I S).2.2).1 0 B (nx B 1 (dInts B m I S).2.1 (dInts B m I S).2.2).2.1 (nx B 1 (dInts B m I S).2.1 (dInts B m I S).2.2).2.2 (acc ++ (dInts B m I S).1) [] a) r →
    Ev (fun k => cD.l0 k (n : Int) (i : Int) B I S acc a) r := by
  intro m
  induction m with
  | zero =>
    intro i n I S acc hi hn ha h
    refine Ev.step (f := fun k => cD.l1 k (nx B 1 I S).1 0 B (nx B 1 I S).2.1 (nx B 1 I S).2.2 acc [] a) (fun k => by rw [cD.l0, if_neg (by omega), nx_1]; rfl) ?_
    simpa [dInts] using h
  | succ m ih =>
    intro i n I S acc hi hn ha h
    have e := wn ((i : Int) + 1) (i + 1) (by omega) (by omega)
    refine Ev.step (f := fun k => cD.l0 k (n : Int) ((i + 1 : Nat) : Int) B (nx B 8 I S).2.1 (nx B 8 I S).2.2 (acc ++ [(nx B 8 I S).1]) a) (fun k => by rw [cD.l0, if_pos (by omega), nx_8, Option.bind_some, if_pos (by omega), e]) ?_
    refine ih (i + 1) n _ _ _ (by omega) hn (by simp; omega) ?_
    simpa [dInts, List.append_assoc] using h
theorem d_l2 (r : Res) (a : Int) (xs : List Int) (ts : List ByteArray) (x44 x45 : Int) : ∀ (m i n : Nat) (I : Int) (S : Bool) (acc : List Int), i + m = n → n ≤ 300 → acc.length + m ≤ 1000 → ts.length ≤ 1000 →
    Ev (fun k => cD.l1 k x44 (wrap64 (x45 + 1)) B (dBytes B m I S).2.1 (dBytes B m I S).2.2 xs (ts ++ [strOfNums (acc ++ (dBytes B m I S).1)]) a) r →
    Ev (fun k => cD.l2 k acc x44 x45 (n : Int) (i : Int) B I S xs ts a) r := by
  intro m
  induction m with
  | zero =>
    intro i n I S acc hi hn ha ht h
    refine Ev.step (f := fun k => cD.l1 k x44 (wrap64 (x45 + 1)) B I S xs (ts ++ [strOfNums acc]) a) (fun k => by rw [cD.l2, if_neg (by omega), if_pos (by omega)]) ?_
    simpa [dBytes] using h
  | succ m ih =>
    intro i n I S acc hi hn ha ht h
    have e := wn ((i : Int) + 1) (i + 1) (by omega) (by omega)
    refine Ev.step (f := fun k => cD.l2 k (acc ++ [(nx B 1 I S).1 % 256]) x44 x45 (n : Int) ((i + 1 : Nat) : Int) B (nx B 1 I S).2.1 (nx B 1 I S).2.2 xs ts a) (fun k => by rw [cD.l2, if_pos (by omega), nx_1, Option.bind_some, if_pos (by omega), e]) ?_
    refine ih (i + 1) n _ _ _ (by omega) hn (by simp; omega) ht ?_
    simpa [dBytes, List.append_assoc] using h
theorem cnt_nat {x : Int} (h0 : 0 ≤ x) : x = ((x.toNat : Nat) : Int) := (Int.toNat_of_nonneg h0).symm
include hB in
theorem d_l1 (r : Res) (a : Int) (xs : List Int) : ∀ (m i n : Nat) (I : Int) (S : Bool) (acc : List ByteArray), i + m = n → n ≤ 300 → acc.length + m ≤ 1000 →
    Ev (fun k => cD.l3 k (nx B 1 (dTexts B m I S).2.1 (dTexts B m I S).2.2).1 0 B (nx B 1 (dTexts B m I S).2.1 (dTexts B m I S).2.2).2.1 (nx B 1 (dTexts B m I S).2.1 (dTexts B m I S).2.2).2.2 [] xs (acc ++ (dTexts B m I S).1) a) r →
    Ev (fun k => cD.l1 k (n : Int) (i : Int) B I S xs acc a) r := by
  intro m
  induction m with
  | zero =>
    intro i n I S acc hi hn ha h
    refine Ev.step (f := fun k => cD.l3 k (nx B 1 I S).1 0 B (nx B 1 I S).2.1 (nx B 1 I S).2.2 [] xs acc a) (fun k => by rw [cD.l1, if_neg (by omega), nx_1]; rfl) ?_
    simpa [dTexts] using h
  | succ m ih =>
    intro i n I S acc hi hn ha h
    have e := wn ((i : Int) + 1) (i + 1) (by omega) (by omega)
    have hv := nx1_val hB I S
    refine Ev.step (f := fun k => cD.l2 k [] (n : Int) (i : Int) (((nx B 1 I S).1.toNat : Nat) : Int) ((0 : Nat) : Int) B (nx B 1 I S).2.1 (nx B 1 I S).2.2 xs acc a) (fun k => by rw [cD.l1, if_pos (by omega), nx_1, Option.bind_some, ← cnt_nat hv.1]; rfl) ?_
    refine d_l2 B r a xs acc (n : Int) (i : Int) (nx B 1 I S).1.toNat 0 _ _ _ [] (by omega) (by omega) (by simp; omega) (by omega) ?_
    rw [e]
    refine ih (i + 1) n _ _ _ (by omega) hn (by simp; omega) ?_
    simpa [dTexts, dText, List.append_assoc] using h
theorem d_l4 (r : Res) (a : Int) (xs : List Int) (ts : List ByteArray) (fs : List S40) (x67 x68 h0 h1 h2 : Int) : ∀ (m i n : Nat) (I : Int) (S : Bool) (acc : List S42), i + m = n → n ≤ 70000 → acc.length + m ≤ 100000 → fs.length ≤ 1000 →
    Ev (fun k => cD.l3 k x67 (wrap64 (x68 + 1)) B (dInstrs B m I S).2.1 (dInstrs B m I S).2.2 (fs ++ [⟨h0, h1, h2, acc ++ (dInstrs B m I S).1⟩]) xs ts a) r →
    Ev (fun k => cD.l4 k x67 x68 (n : Int) (i : Int) B I S fs xs ts a h0 h1 h2 acc) r := by
  intro m
  induction m with
  | zero =>
    intro i n I S acc hi hn ha hf h
    refine Ev.step (f := fun k => cD.l3 k x67 (wrap64 (x68 + 1)) B I S (fs ++ [⟨h0, h1, h2, acc⟩]) xs ts a) (fun k => by rw [cD.l4, if_neg (by omega), if_pos (by omega)]) ?_
    simpa [dInstrs] using h
  | succ m ih =>
    intro i n I S acc hi hn ha hf h
    have e := wn ((i : Int) + 1) (i + 1) (by omega) (by omega)
    by_cases hS : S = true
    · refine Ev.step (f := fun k => cD.l3 k x67 (wrap64 (x68 + 1)) B I S (fs ++ [⟨h0, h1, h2, acc⟩]) xs ts a) (fun k => by rw [cD.l4, if_pos (by omega), if_pos hS, if_pos (by omega)]) ?_
      simpa [dInstrs, hS] using h
    · refine Ev.step (f := fun k => cD.l4 k x67 x68 (n : Int) ((i + 1 : Nat) : Int) B (dInstr B I S).2.1 (dInstr B I S).2.2 fs xs ts a h0 h1 h2 (acc ++ [(dInstr B I S).1])) (fun k => by rw [cD.l4, if_pos (by omega), if_neg hS, nx_1, Option.bind_some, nx_2, Option.bind_some, nx_2, Option.bind_some, if_pos (by omega), e]; rfl) ?_
      refine ih (i + 1) n _ _ _ (by omega) hn (by simp; omega) hf ?_
      simpa [dInstrs, hS, List.append_assoc] using h
theorem instrs_len : ∀ (m : Nat) (I : Int) (S : Bool), (dInstrs B m I S).1.length ≤ m
  | 0, _, _ => Nat.le_refl _
  | m + 1, I, S => by
    unfold dInstrs
    split
    · exact Nat.zero_le _
    · have := instrs_len m (dInstr B I S).2.1 (dInstr B I S).2.2
      simp only [List.length_cons]
      omega
include hB in
theorem d_l3 (xs : List Int) (ts : List ByteArray) (a : Int) : ∀ (m i n : Nat) (I : Int) (S : Bool) (acc : List S40), i + m = n → n ≤ 300 → acc.length + m ≤ 1000 → (∀ f ∈ acc, f.f3.length ≤ 100000) →
    Ev (fun k => cD.l3 k (n : Int) (i : Int) B I S acc xs ts a) (fin B (dBodies B m I S).2.1 (dBodies B m I S).2.2 (acc ++ (dBodies B m I S).1) xs ts a) := by
  intro m
  induction m with
  | zero =>
    intro i n I S acc hi hn ha hf
    have e0 : fin B (dBodies B 0 I S).2.1 (dBodies B 0 I S).2.2 (acc ++ (dBodies B 0 I S).1) xs ts a = fin B I S acc xs ts a := by simp [dBodies]
    rw [e0]
    refine Ev.step (f := fun k => if S = true then (some bad) else (if ((B.drop I.toNat).length : Int) > 0 then (some bad) else ((code_May.f k acc xs ts a).bind fun t => (if t = true then (some (acc, xs, ts, a, 0)) else (some bad))))) (fun k => by rw [cD.l3, if_neg (by omega)]; rfl) ?_
    unfold fin
    by_cases hS : S = true
    · refine Ev.congr (fun k => if_pos hS) ?_
      rw [if_pos hS]
      exact Ev.now _
    · refine Ev.congr (fun k => if_neg hS) ?_
      rw [if_neg hS]
      by_cases hd : ((B.drop I.toNat).length : Int) > 0
      · refine Ev.congr (fun k => if_pos hd) ?_
        rw [if_pos hd]
        exact Ev.now _
      · refine Ev.congr (fun k => if_neg hd) ?_
        rw [if_neg hd]
        refine Ev.bind (may_ev acc xs ts a (by omega) (fun f hm => by have := hf f hm; omega)) ?_
        by_cases hm : mayP acc xs ts a = true
        · refine Ev.congr (fun k => if_pos hm) ?_
          rw [if_pos hm]
          exact Ev.now _
        · refine Ev.congr (fun k => if_neg hm) ?_
          rw [if_neg hm]
          exact Ev.now _
  | succ m ih =>
    intro i n I S acc hi hn ha hf
    have e := wn ((i : Int) + 1) (i + 1) (by omega) (by omega)
    have hc : 0 ≤ (dHead B I S).2.2.2.1 ∧ (dHead B I S).2.2.2.1 < ((2 ^ (8 * 2) : Nat) : Int) := nx_small hB 2 (by omega) _ _
    have e16 : ((2 ^ (8 * 2) : Nat) : Int) = 65536 := by decide
    rw [e16] at hc
    have hc2 : (dHead B I S).2.2.2.1.toNat < 65536 := by have := hc.2; omega
    refine Ev.step (f := fun k => cD.l4 k (n : Int) (i : Int) (((dHead B I S).2.2.2.1.toNat : Nat) : Int) ((0 : Nat) : Int) B (dHead B I S).2.2.2.2.1 (dHead B I S).2.2.2.2.2 acc xs ts a (dHead B I S).1 (dHead B I S).2.1 (dHead B I S).2.2.1 []) (fun k => by rw [cD.l3, if_pos (by omega), nx_1, Option.bind_some, nx_1, Option.bind_some, nx_1, Option.bind_some, nx_2, Option.bind_some, ← cnt_nat hc.1]; rfl) ?_
    refine d_l4 B _ a xs ts acc (n : Int) (i : Int) _ _ _ (dHead B I S).2.2.2.1.toNat 0 _ _ _ [] (by omega) (by omega) (by simp; omega) (by omega) ?_
    rw [e]
    have hl := instrs_len B (dHead B I S).2.2.2.1.toNat (dHead B I S).2.2.2.2.1 (dHead B I S).2.2.2.2.2
    have := ih (i + 1) n (dBody B I S).2.1 (dBody B I S).2.2 (acc ++ [(dBody B I S).1]) (by omega) hn (by simp; omega) (by
      intro f hm
      rcases List.mem_append.1 hm with hm | hm
      · exact hf f hm
      · rw [List.mem_singleton.1 hm]
        unfold dBody
        simp only
        omega)
    rw [List.append_assoc] at this
    simp only [List.nil_append]
    exact this
end
/-- What code.Decode answers. -/
def decP (B : List Int) : Res :=
  let a := nx B 1 (startI B) (startS B)
  let c := nx B 1 a.2.1 a.2.2
  let xs := dInts B c.1.toNat c.2.1 c.2.2
  let d := nx B 1 xs.2.1 xs.2.2
  let ts := dTexts B d.1.toNat d.2.1 d.2.2
  let e := nx B 1 ts.2.1 ts.2.2
  let fs := dBodies B e.1.toNat e.2.1 e.2.2
  fin B fs.2.1 fs.2.2 fs.1 xs.1 ts.1 a.1
theorem dec_ev (B : List Int) (hB : Byt B) : Ev (fun k => cD.f k B) (decP B) := by
  have v1 := nx1_val hB (nx B 1 (startI B) (startS B)).2.1 (nx B 1 (startI B) (startS B)).2.2
  generalize hc : nx B 1 (nx B 1 (startI B) (startS B)).2.1 (nx B 1 (startI B) (startS B)).2.2 = c at v1
  refine Ev.congr (f := fun k => cD.l0 k ((c.1.toNat : Nat) : Int) ((0 : Nat) : Int) B c.2.1 c.2.2 [] (nx B 1 (startI B) (startS B)).1) (fun k => by rw [cD.f, nx_1, Option.bind_some, nx_1, Option.bind_some, hc, ← cnt_nat v1.1]; rfl) ?_
  refine d_l0 B _ _ c.1.toNat 0 c.1.toNat _ _ [] (by omega) (by omega) (by simp; omega) ?_
  generalize hx : dInts B c.1.toNat c.2.1 c.2.2 = xs
  have v2 := nx1_val hB xs.2.1 xs.2.2
  generalize hd : nx B 1 xs.2.1 xs.2.2 = d at v2 ⊢
  rw [cnt_nat v2.1]
  refine d_l1 B hB _ _ _ d.1.toNat 0 d.1.toNat _ _ [] (by omega) (by omega) (by simp; omega) ?_
  generalize ht : dTexts B d.1.toNat d.2.1 d.2.2 = ts
  have v3 := nx1_val hB ts.2.1 ts.2.2
  generalize he : nx B 1 ts.2.1 ts.2.2 = e at v3 ⊢
  rw [cnt_nat v3.1]
  have h := d_l3 B hB ([] ++ xs.1) ([] ++ ts.1) (nx B 1 (startI B) (startS B)).1 e.1.toNat 0 e.1.toNat e.2.1 e.2.2 [] (by omega) (by omega) (by simp; omega) (by simp)
  have hr : decP B = fin B (dBodies B e.1.toNat e.2.1 e.2.2).2.1 (dBodies B e.1.toNat e.2.1 e.2.2).2.2 ([] ++ (dBodies B e.1.toNat e.2.1 e.2.2).1) ([] ++ xs.1) ([] ++ ts.1) (nx B 1 (startI B) (startS B)).1 := by
    unfold decP
    simp only [hc, hx, hd, ht, he, List.nil_append]
  rw [hr]
  exact h
end Go.Proofs.Ytadbiogchgglpaa.Q
