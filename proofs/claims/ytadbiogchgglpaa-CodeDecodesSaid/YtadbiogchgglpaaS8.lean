import Derived.Test.YtadbiogchgglpaaS7
namespace Go.Proofs.Ytadbiogchgglpaa.Q
open Go.RowKit Go.Proofs.YtadbiogchgglpaaW.PrintWords Go.Proofs.YtadbiogchgglpaaW.PrintLast Go.Proofs.YtadbiogchgglpaaW.PrintMore
set_option linter.unusedVariables false
set_option linter.unusedSimpArgs false
set_option linter.unusedSectionVars false
/-! ### the document's Decode as a whole -/
def rdecP (B : List Int) : Res :=
  let x := nx B 1 0 false
  let y := nx B 1 x.2.1 x.2.2
  let z := nx B 1 y.2.1 y.2.2
  if x.1 = 83 ∧ y.1 = 77 ∧ z.1 = 49 then
    (let a := nx B 1 z.2.1 z.2.2
     let c := nx B 1 a.2.1 a.2.2
     let xs := rInts B c.1.toNat c.2.1 c.2.2
     let d := nx B 1 xs.2.1 xs.2.2
     let ts := dTexts B d.1.toNat d.2.1 d.2.2
     let e := nx B 1 ts.2.1 ts.2.2
     let fs := rBodies B e.1.toNat e.2.1 e.2.2
     rfin B fs.2.1 fs.2.2 fs.1 xs.1 ts.1 a.1)
  else bad
section
variable (B : List Int) (hB : Byt B) (hl : B.length ≤ 1000000)
include hB hl
theorem r_j0 (I : Int) (S : Bool) (hI : In B I) :
    Ev (fun k => zD.j0 k B false B I S) (let a := nx B 1 I S; let c := nx B 1 a.2.1 a.2.2; let xs := rInts B c.1.toNat c.2.1 c.2.2; let d := nx B 1 xs.2.1 xs.2.2; let ts := dTexts B d.1.toNat d.2.1 d.2.2; let e := nx B 1 ts.2.1 ts.2.2; let fs := rBodies B e.1.toNat e.2.1 e.2.2; rfin B fs.2.1 fs.2.2 fs.1 xs.1 ts.1 a.1) := by
  have ia := nx_in hI 1 S
  generalize ha : nx B 1 I S = a at ia
  have v1 := nx1_val hB a.2.1 a.2.2
  have ic := nx_in ia 1 a.2.2
  generalize hc : nx B 1 a.2.1 a.2.2 = c at v1 ic
  refine Ev.step (f := fun k => zD.l0 k B ((c.1.toNat : Nat) : Int) ((0 : Nat) : Int) B c.2.1 c.2.2 [] a.1) (fun k => by rw [zD.j0, if_neg (by decide), one_f hB hl hI, Option.bind_some, ha, one_f hB hl ia, Option.bind_some, hc, ← cnt_nat v1.1]; rfl) ?_
  refine r_l0 B hB hl _ _ c.1.toNat 0 c.1.toNat _ _ [] (by omega) (by omega) (by simp; omega) ic ?_
  have ix := rInts_in B hB hl c.1.toNat ic c.2.2
  generalize hx : rInts B c.1.toNat c.2.1 c.2.2 = xs at ix
  have v2 := nx1_val hB xs.2.1 xs.2.2
  have id := nx_in ix 1 xs.2.2
  generalize hd : nx B 1 xs.2.1 xs.2.2 = d at v2 id ⊢
  rw [cnt_nat v2.1]
  refine r_l2 B hB hl _ _ _ d.1.toNat 0 d.1.toNat _ _ [] (by omega) (by omega) (by simp; omega) id ?_
  have it := dTexts_in B hB hl d.1.toNat id d.2.2
  generalize ht : dTexts B d.1.toNat d.2.1 d.2.2 = ts at it
  have v3 := nx1_val hB ts.2.1 ts.2.2
  have ie := nx_in it 1 ts.2.2
  generalize he : nx B 1 ts.2.1 ts.2.2 = e at v3 ie ⊢
  rw [cnt_nat v3.1]
  have h := r_l4 B hB hl ([] ++ xs.1) ([] ++ ts.1) a.1 e.1.toNat 0 e.1.toNat e.2.1 e.2.2 [] (by omega) (by omega) (by simp; omega) (by simp) ie
  simp only [ha, hc, hx, hd, ht, he]
  exact h
theorem rdec_ev : Ev (fun k => zD.f k B) (rdecP B) := by
  have i0 : In B 0 := ⟨Int.le_refl _, by omega⟩
  have ix := nx_in i0 1 false
  generalize hx : nx B 1 0 false = x at ix
  have iy := nx_in ix 1 x.2.2
  generalize hy : nx B 1 x.2.1 x.2.2 = y at iy
  have iz := nx_in iy 1 y.2.2
  generalize hz : nx B 1 y.2.1 y.2.2 = z at iz
  have hbad : ∀ (I : Int) (S : Bool), Ev (fun k => zD.j0 k B true B I S) bad := fun I S => Ev.step (f := fun _ => some bad) (fun k => by rw [zD.j0, if_pos rfl]; rfl) (Ev.now _)
  have hf : ∀ k, zD.f k B = (if x.1 = 83 then (if y.1 = 77 then (zD.j0 k B (z.1 != 49) B z.2.1 z.2.2) else (zD.j0 k B true B z.2.1 z.2.2)) else (zD.j0 k B true B z.2.1 z.2.2)) := fun k => by
    rw [zD.f, one_f hB hl i0, Option.bind_some, hx, one_f hB hl ix, Option.bind_some, hy, one_f hB hl iy, Option.bind_some, hz]
  refine Ev.congr hf ?_
  unfold rdecP
  simp only [hx, hy, hz]
  by_cases h1 : x.1 = 83
  · refine Ev.congr (fun k => if_pos h1) ?_
    by_cases h2 : y.1 = 77
    · refine Ev.congr (fun k => if_pos h2) ?_
      by_cases h3 : z.1 = 49
      · rw [if_pos ⟨h1, h2, h3⟩]
        have e : (z.1 != 49) = false := by rw [h3]; decide
        rw [e]
        exact r_j0 B hB hl z.2.1 z.2.2 iz
      · rw [if_neg (fun h => h3 h.2.2)]
        have e : (z.1 != 49) = true := bne_iff_ne.2 h3
        rw [e]
        exact hbad _ _
    · refine Ev.congr (fun k => if_neg h2) ?_
      rw [if_neg (fun h => h2 h.2.1)]
      exact hbad _ _
  · refine Ev.congr (fun k => if_neg h1) ?_
    rw [if_neg (fun h => h1 h.1)]
    exact hbad _ _
end
/-! ### both read alike -/
/-- The place and the mark behind w bytes. -/
def stW (B : List Int) (w : Nat) (I : Int) (S : Bool) : Int × Bool := if (B.length : Int) - I < (w : Int) then ((B.length : Int), true) else (I + (w : Int), S)
theorem nx_st {B : List Int} {I : Int} (h : In B I) (w : Nat) (S : Bool) : (nx B w I S).2 = stW B w I S := by
  have h0 := h.1
  have h1 := h.2
  unfold nx stW
  have e : ((B.drop I.toNat).length : Int) = (B.length : Int) - I := by rw [List.length_drop]; omega
  rw [e]
  split <;> rfl
theorem stW_step {B : List Int} {I : Int} (h : In B I) (w : Nat) (S : Bool) : stW B 1 (stW B w I S).1 (stW B w I S).2 = stW B (w + 1) I S := by
  have h0 := h.1
  have h1 := h.2
  unfold stW
  by_cases c : (B.length : Int) - I < (w : Int)
  · rw [if_pos c, if_pos (by show (B.length : Int) - (B.length : Int) < _; omega), if_pos (by omega)]
  · rw [if_neg c]
    by_cases c2 : (B.length : Int) - I < ((w + 1 : Nat) : Int)
    · rw [if_pos (by show (B.length : Int) - (I + (w : Int)) < _; omega), if_pos c2]
    · rw [if_neg (by show ¬ (B.length : Int) - (I + (w : Int)) < _; omega), if_neg c2]
      simp only [Prod.mk.injEq, and_true]
      show I + (w : Int) + ((1 : Nat) : Int) = I + ((w + 1 : Nat) : Int)
      omega
theorem stW_in {B : List Int} {I : Int} (h : In B I) (w : Nat) (S : Bool) : In B (stW B w I S).1 := by
  rw [← nx_st h w S]
  exact nx_in h w S
theorem stW_zero {B : List Int} {I : Int} (h : In B I) (S : Bool) : stW B 0 I S = (I, S) := by
  have h1 := h.2
  unfold stW
  rw [if_neg (by omega)]
  simp
theorem p2_st {B : List Int} {I : Int} (h : In B I) (S : Bool) : (p2 B I S).2 = (nx B 2 I S).2 := by
  unfold p2
  show (nx B 1 (nx B 1 I S).2.1 (nx B 1 I S).2.2).2 = _
  rw [nx_st (nx_in h 1 S), nx_st h 1 S, nx_st h 2 S, stW_step h 1 S]
theorem p7_st {B : List Int} {I : Int} (h : In B I) (S : Bool) : ∀ (d j : Nat) (v m : Int), (p7 B d v m (stW B j I S).1 (stW B j I S).2).2.2 = stW B (j + d) I S
  | 0, j, v, m => rfl
  | d + 1, j, v, m => by
    unfold p7
    rw [nx_st (stW_in h j S), stW_step h j S, p7_st h S d (j + 1)]
    congr 1
    omega
theorem p8_st {B : List Int} {I : Int} (h : In B I) (S : Bool) : (p8 B I S).2 = (nx B 8 I S).2 := by
  have h7 := p7_st h S 7 0 0 1
  rw [stW_zero h S] at h7
  unfold p8
  show (nx B 1 (p7 B 7 0 1 I S).2.2.1 (p7 B 7 0 1 I S).2.2.2).2 = _
  rw [h7, nx_st (stW_in h (0 + 7) S), stW_step h (0 + 7) S, nx_st h 8 S]
/-- Not short behind: not short ahead, and the bytes are there. -/
theorem nx_long {B : List Int} {I : Int} (h : In B I) (w : Nat) (S : Bool) (hs : (nx B w I S).2.2 = false) : S = false ∧ I + (w : Int) ≤ (B.length : Int) := by
  rw [nx_st h] at hs
  unfold stW at hs
  split at hs
  · cases hs
  · exact ⟨hs, by omega⟩
theorem nx_value {B : List Int} (hB : Byt B) {I : Int} (h : In B I) (w : Nat) (hw : w ≤ 8) (S : Bool) (hs : I + (w : Int) ≤ (B.length : Int)) : nx B w I S = (wrap64 ((vN (B.drop I.toNat) w : Nat) : Int), I + (w : Int), S) := by
  have h0 := h.1
  unfold nx
  rw [if_neg (by rw [List.length_drop]; omega), next_val (byt_drop hB _) w hw]
theorem p2_value {B : List Int} (hB : Byt B) {I : Int} (h : In B I) (S : Bool) (hs : (nx B 2 I S).2.2 = false) : (p2 B I S).1 = (nx B 2 I S).1 := by
  obtain ⟨_, hb⟩ := nx_long h 2 S hs
  have h0 := h.1
  rw [nx_value hB h 2 (by omega) S hb, vN_small (byt_drop hB _) 2 (by omega)]
  unfold p2
  rw [nx1_on hB h S (by omega), nx1_on hB (I := I + 1) ⟨by omega, by omega⟩ S (by omega)]
  have r0 := rd_byt hB I
  have r1 := rd_byt hB (I + 1)
  have e0 := rd_drop0 B I 0 h0
  have e1 := rd_drop0 B I 1 h0
  show rd B I + 256 * rd B (I + 1) = ((vN (B.drop I.toNat) 2 : Nat) : Int)
  unfold vN vN vN
  rw [e0, e1]
  have a0 : I + ((0 : Nat) : Int) = I := by omega
  have a1 : I + ((1 : Nat) : Int) = I + 1 := by omega
  rw [a0, a1]
  simp only [Nat.mul_zero, Nat.pow_zero, Nat.one_mul, Nat.zero_add, Nat.mul_one]
  have p8 : (2 : Nat) ^ 8 = 256 := by decide
  rw [p8]
  omega
theorem p7_value {B : List Int} (hB : Byt B) {I : Int} (h : In B I) (S : Bool) : ∀ (d j : Nat), I + ((j + d : Nat) : Int) ≤ (B.length : Int) → p7 B d ((vN (B.drop I.toNat) j : Nat) : Int) ((2 ^ (8 * j) : Nat) : Int) (I + (j : Int)) S = (((vN (B.drop I.toNat) (j + d) : Nat) : Int), ((2 ^ (8 * (j + d)) : Nat) : Int), I + ((j + d : Nat) : Int), S)
  | 0, j, _ => rfl
  | d + 1, j, hs => by
    have h0 := h.1
    unfold p7
    rw [nx1_on hB (I := I + (j : Int)) ⟨by omega, by omega⟩ S (by omega)]
    have r0 := rd_byt hB (I + (j : Int))
    have e0 := rd_drop0 B I j h0
    have ev : ((vN (B.drop I.toNat) j : Nat) : Int) + rd B (I + (j : Int)) * ((2 ^ (8 * j) : Nat) : Int) = ((vN (B.drop I.toNat) (j + 1) : Nat) : Int) := by
      have : vN (B.drop I.toNat) (j + 1) = vN (B.drop I.toNat) j + 2 ^ (8 * j) * (rd (B.drop I.toNat) (j : Int)).toNat := rfl
      rw [this, e0, Int.natCast_add, Int.natCast_mul, Int.toNat_of_nonneg r0.1, Int.mul_comm]
    have em : ((2 ^ (8 * j) : Nat) : Int) * 256 = ((2 ^ (8 * (j + 1)) : Nat) : Int) := by rw [pow_step, Int.natCast_mul]; rfl
    have ei : I + (j : Int) + 1 = I + ((j + 1 : Nat) : Int) := by omega
    show p7 B d (((vN (B.drop I.toNat) j : Nat) : Int) + rd B (I + (j : Int)) * ((2 ^ (8 * j) : Nat) : Int)) (((2 ^ (8 * j) : Nat) : Int) * 256) (I + (j : Int) + 1) S = _
    rw [ev, em, ei, p7_value hB h S d (j + 1) (by omega), show j + 1 + d = j + (d + 1) by omega]
theorem p8_value {B : List Int} (hB : Byt B) {I : Int} (h : In B I) (S : Bool) (hs : (nx B 8 I S).2.2 = false) : (p8 B I S).1 = (nx B 8 I S).1 := by
  obtain ⟨_, hb⟩ := nx_long h 8 S hs
  have h0 := h.1
  have h7 := p7_value hB h S 7 0 (by omega)
  have z0 : ((vN (B.drop I.toNat) 0 : Nat) : Int) = 0 := rfl
  have z1 : ((2 ^ (8 * 0) : Nat) : Int) = 1 := rfl
  have z2 : I + ((0 : Nat) : Int) = I := by omega
  rw [z0, z1, z2, Nat.zero_add] at h7
  have r7 := rd_byt hB (I + 7)
  have e7 := rd_drop0 B I 7 h0
  have lt7 := vN_lt (byt_drop hB I.toNat) 7
  have a7 : I + ((7 : Nat) : Int) = I + 7 := by omega
  rw [nx_value hB h 8 (by omega) S hb]
  unfold p8
  rw [h7]
  show (if (nx B 1 (I + ((7 : Nat) : Int)) S).1 > 127 then _ else _) = _
  rw [a7, nx1_on hB (I := I + 7) ⟨by omega, by omega⟩ S (by omega)]
  have v8 : vN (B.drop I.toNat) 8 = vN (B.drop I.toNat) 7 + 2 ^ 56 * (rd B (I + 7)).toNat := by
    have : vN (B.drop I.toNat) 8 = vN (B.drop I.toNat) 7 + 2 ^ (8 * 7) * (rd (B.drop I.toNat) ((7 : Nat) : Int)).toNat := rfl
    rw [this, e7, a7]
  have p56 : (2 : Nat) ^ (8 * 7) = 72057594037927936 := by decide +kernel
  have q56 : (2 : Nat) ^ 56 = 72057594037927936 := by decide +kernel
  rw [p56] at lt7
  rw [v8, q56]
  generalize vN (B.drop I.toNat) 7 = V at *
  generalize rd B (I + 7) = t at *
  show (if t > 127 then ((V : Nat) : Int) + (t - 256) * ((72057594037927936 : Nat) : Int) else ((V : Nat) : Int) + t * ((72057594037927936 : Nat) : Int)) = wrap64 (((V + 72057594037927936 * t.toNat : Nat)) : Int)
  unfold wrap64
  split <;> omega
end Go.Proofs.Ytadbiogchgglpaa.Q
