import Derived.Test.YtadbiogchgglpaaS9
namespace Go.Proofs.Ytadbiogchgglpaa.Q
open Go.RowKit Go.Proofs.YtadbiogchgglpaaW.PrintWords Go.Proofs.YtadbiogchgglpaaW.PrintLast Go.Proofs.YtadbiogchgglpaaW.PrintMore
set_option linter.unusedVariables false
set_option linter.unusedSimpArgs false
set_option linter.unusedSectionVars false
/-- What both read behind the mark. -/
def dTail (B : List Int) (I : Int) (S : Bool) : Res :=
  let a := nx B 1 I S
  let c := nx B 1 a.2.1 a.2.2
  let xs := dInts B c.1.toNat c.2.1 c.2.2
  let d := nx B 1 xs.2.1 xs.2.2
  let ts := dTexts B d.1.toNat d.2.1 d.2.2
  let e := nx B 1 ts.2.1 ts.2.2
  let fs := dBodies B e.1.toNat e.2.1 e.2.2
  fin B fs.2.1 fs.2.2 fs.1 xs.1 ts.1 a.1
def rTail (B : List Int) (I : Int) (S : Bool) : Res :=
  let a := nx B 1 I S
  let c := nx B 1 a.2.1 a.2.2
  let xs := rInts B c.1.toNat c.2.1 c.2.2
  let d := nx B 1 xs.2.1 xs.2.2
  let ts := dTexts B d.1.toNat d.2.1 d.2.2
  let e := nx B 1 ts.2.1 ts.2.2
  let fs := rBodies B e.1.toNat e.2.1 e.2.2
  rfin B fs.2.1 fs.2.2 fs.1 xs.1 ts.1 a.1
theorem dTail_true (B : List Int) (I : Int) : dTail B I true = bad := by
  unfold dTail
  simp only [nx_sticky, ints_sticky, texts_sticky, bodies_sticky]
  exact if_pos rfl
theorem fin_alike {B : List Int} {I : Int} (h : In B I) (fs : List S40) (xs : List Int) (ts : List ByteArray) (a : Int) : rfin B I false fs xs ts a = fin B I false fs xs ts a := by
  have h0 := h.1
  have h1 := h.2
  unfold rfin fin
  rw [if_neg (show ¬ (false = true) by decide), if_neg (show ¬ (false = true) by decide)]
  by_cases e : I = (B.length : Int)
  · have hn : ¬ ((B.drop I.toNat).length : Int) > 0 := by rw [List.length_drop]; omega
    rw [if_pos e, if_neg hn]
  · have hn : ((B.drop I.toNat).length : Int) > 0 := by rw [List.length_drop]; omega
    rw [if_neg e, if_pos hn]
theorem dInts_in {B : List Int} : ∀ (n : Nat) {I : Int} (_ : In B I) (S : Bool), In B (dInts B n I S).2.1
  | 0, _, h, _ => h
  | n + 1, I, h, S => dInts_in n (nx_in h 8 S) _
theorem tBytes_in {B : List Int} : ∀ (n : Nat) {I : Int} (_ : In B I) (S : Bool), In B (dBytes B n I S).2.1
  | 0, _, h, _ => h
  | n + 1, I, h, S => tBytes_in n (nx_in h 1 S) _
theorem tTexts_in {B : List Int} : ∀ (n : Nat) {I : Int} (_ : In B I) (S : Bool), In B (dTexts B n I S).2.1
  | 0, _, h, _ => h
  | n + 1, I, h, S => tTexts_in n (tBytes_in _ (nx_in h 1 S) _) _
theorem dBodies_in {B : List Int} (hB : Byt B) : ∀ (n : Nat) {I : Int} (_ : In B I) (S : Bool), In B (dBodies B n I S).2.1
  | 0, _, h, _ => h
  | n + 1, I, h, S => dBodies_in hB n (dBody_in B hB h S) _
theorem tail_alike {B : List Int} (hB : Byt B) {I : Int} (h : In B I) (S : Bool) : rTail B I S = dTail B I S := by
  have ia := nx_in h 1 S
  unfold rTail dTail
  dsimp only
  generalize nx B 1 I S = a at *
  have ic := nx_in ia 1 a.2.2
  generalize nx B 1 a.2.1 a.2.2 = c at *
  have hx := ints_rel B hB c.1.toNat ic c.2.2
  have ix := dInts_in c.1.toNat ic c.2.2
  rw [hx.1]
  generalize rInts B c.1.toNat c.2.1 c.2.2 = rx at *
  generalize dInts B c.1.toNat c.2.1 c.2.2 = x at *
  have id := nx_in ix 1 x.2.2
  have sd : (nx B 1 x.2.1 x.2.2).2.2 = false → x.2.2 = false := fun hs => back (f := fun I S => (nx B 1 I S).2.2) (nx_sticky B 1) hs
  generalize nx B 1 x.2.1 x.2.2 = d at *
  have it := tTexts_in d.1.toNat id d.2.2
  have st : (dTexts B d.1.toNat d.2.1 d.2.2).2.2 = false → d.2.2 = false := fun hs => back (f := fun I S => (dTexts B d.1.toNat I S).2.2) (texts_sticky B _) hs
  generalize dTexts B d.1.toNat d.2.1 d.2.2 = t at *
  have ie := nx_in it 1 t.2.2
  have se : (nx B 1 t.2.1 t.2.2).2.2 = false → t.2.2 = false := fun hs => back (f := fun I S => (nx B 1 I S).2.2) (nx_sticky B 1) hs
  generalize nx B 1 t.2.1 t.2.2 = e at *
  have hf := bodies_rel B hB e.1.toNat ie e.2.2
  have iff_ := dBodies_in hB e.1.toNat ie e.2.2
  have sf : (dBodies B e.1.toNat e.2.1 e.2.2).2.2 = false → e.2.2 = false := fun hs => back (f := fun I S => (dBodies B e.1.toNat I S).2.2) (bodies_sticky B _) hs
  rw [hf.1]
  generalize rBodies B e.1.toNat e.2.1 e.2.2 = rf at *
  generalize dBodies B e.1.toNat e.2.1 e.2.2 = f at *
  by_cases hs : f.2.2 = false
  · rw [hf.2 hs, hx.2 (sd (st (se (sf hs)))), hs]
    exact fin_alike iff_ _ _ _ _
  · have ht : f.2.2 = true := by cases hq : f.2.2 <;> simp_all
    rw [ht]
    rfl
theorem toList3 (a b c : UInt8) : (⟨#[a, b, c]⟩ : ByteArray).toList = [a, b, c] := by
  rw [ByteArray.toList_eq]
theorem rd0 (x : Int) (l : List Int) : rd (x :: l) 0 = x := rfl
theorem u8_eq {x : Int} (h0 : 0 ≤ x) (h1 : x ≤ 255) (n : Nat) (hn : n < 256) : UInt8.ofNat x.toNat = UInt8.ofNat n ↔ x = (n : Int) := by
  constructor
  · intro h
    have h2 := congrArg UInt8.toNat h
    simp only [UInt8.toNat_ofNat'] at h2
    omega
  · intro h
    rw [h, Int.toNat_natCast]
theorem startS_of : ∀ {B : List Int}, ¬ (B.length : Int) < 3 → startS B = ([UInt8.ofNat (rd B 0).toNat, UInt8.ofNat (rd B (0 + 1)).toNat, UInt8.ofNat (rd B (0 + 1 + 1)).toNat] != ([83, 77, 49] : List UInt8))
  | [], h => absurd (by decide) h
  | [_], h => absurd (by simp) h
  | [_, _], h => absurd (by simp) h
  | x :: y :: z :: r, hl => by
    have e : startS (x :: y :: z :: r) = ((strOfNums [x, y, z]).toList != ([83, 77, 49] : List UInt8)) := by
      unfold startS
      rw [if_neg hl]
      rfl
    rw [e, show (strOfNums [x, y, z]).toList = [UInt8.ofNat x.toNat, UInt8.ofNat y.toNat, UInt8.ofNat z.toNat] from toList3 _ _ _]
    rfl
theorem dec_alike {B : List Int} (hB : Byt B) : decP B = rdecP B := by
  have i0 : In B 0 := ⟨Int.le_refl _, by omega⟩
  have ed : decP B = dTail B (startI B) (startS B) := rfl
  have er : rdecP B = (if (nx B 1 0 false).1 = 83 ∧ (nx B 1 (nx B 1 0 false).2.1 (nx B 1 0 false).2.2).1 = 77 ∧ (nx B 1 (nx B 1 (nx B 1 0 false).2.1 (nx B 1 0 false).2.2).2.1 (nx B 1 (nx B 1 0 false).2.1 (nx B 1 0 false).2.2).2.2).1 = 49 then rTail B (nx B 1 (nx B 1 (nx B 1 0 false).2.1 (nx B 1 0 false).2.2).2.1 (nx B 1 (nx B 1 0 false).2.1 (nx B 1 0 false).2.2).2.2).2.1 (nx B 1 (nx B 1 (nx B 1 0 false).2.1 (nx B 1 0 false).2.2).2.1 (nx B 1 (nx B 1 0 false).2.1 (nx B 1 0 false).2.2).2.2).2.2 else bad) := rfl
  have ix := nx_in i0 1 false
  have iy := nx_in ix 1 (nx B 1 0 false).2.2
  have iz := nx_in iy 1 (nx B 1 (nx B 1 0 false).2.1 (nx B 1 0 false).2.2).2.2
  rw [ed, er, tail_alike hB iz]
  by_cases hl : (B.length : Int) < 3
  · have e1 : startS B = true := by unfold startS; rw [if_pos hl]
    have e2 : (nx B 1 (nx B 1 (nx B 1 0 false).2.1 (nx B 1 0 false).2.2).2.1 (nx B 1 (nx B 1 0 false).2.1 (nx B 1 0 false).2.2).2.2).2.2 = true := by
      rw [nx_st iy, nx_st ix, nx_st i0, stW_step i0, stW_step i0]
      unfold stW
      rw [if_pos (by omega)]
    rw [e1, e2, dTail_true, dTail_true]
    split <;> rfl
  · have n0 : nx B 1 0 false = (rd B 0, 0 + 1, false) := nx1_on hB i0 false (by omega)
    have n1 : nx B 1 (0 + 1) false = (rd B (0 + 1), 0 + 1 + 1, false) := nx1_on hB ⟨by omega, by omega⟩ false (by omega)
    have n2 : nx B 1 (0 + 1 + 1) false = (rd B (0 + 1 + 1), 0 + 1 + 1 + 1, false) := nx1_on hB ⟨by omega, by omega⟩ false (by omega)
    rw [n0]
    simp only
    rw [n1]
    simp only
    rw [n2]
    simp only
    have eI : startI B = 0 + 1 + 1 + 1 := by unfold startI; rw [if_neg hl]; rfl
    rw [eI]
    have b0 := rd_byt hB 0
    have b1 := rd_byt hB (0 + 1)
    have b2 := rd_byt hB (0 + 1 + 1)
    have eS := startS_of hl
    have key : (rd B 0 = 83 ∧ rd B (0 + 1) = 77 ∧ rd B (0 + 1 + 1) = 49) ↔ [UInt8.ofNat (rd B 0).toNat, UInt8.ofNat (rd B (0 + 1)).toNat, UInt8.ofNat (rd B (0 + 1 + 1)).toNat] = ([83, 77, 49] : List UInt8) := by
      have k0 := u8_eq b0.1 b0.2 83 (by decide)
      have k1 := u8_eq b1.1 b1.2 77 (by decide)
      have k2 := u8_eq b2.1 b2.2 49 (by decide)
      constructor
      · rintro ⟨h0, h1, h2⟩
        rw [k0.2 h0, k1.2 h1, k2.2 h2]
        rfl
      · intro h
        injection h with h0 h
        injection h with h1 h
        injection h with h2 h
        exact ⟨k0.1 h0, k1.1 h1, k2.1 h2⟩
    by_cases hk : rd B 0 = 83 ∧ rd B (0 + 1) = 77 ∧ rd B (0 + 1 + 1) = 49
    · rw [if_pos hk, eS, key.1 hk]
      rfl
    · rw [if_neg hk, eS]
      have : ([UInt8.ofNat (rd B 0).toNat, UInt8.ofNat (rd B (0 + 1)).toNat, UInt8.ofNat (rd B (0 + 1 + 1)).toNat] != ([83, 77, 49] : List UInt8)) = true := bne_iff_ne.2 fun h => hk (key.2 h)
      rw [this]
      exact dTail_true B _
end Go.Proofs.Ytadbiogchgglpaa.Q
