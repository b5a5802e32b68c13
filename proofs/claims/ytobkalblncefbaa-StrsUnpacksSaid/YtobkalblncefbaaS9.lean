import Derived.Test.YtobkalblncefbaaS8
import Derived.Test.YtobkalblncefbaaQx26
import Derived.Test.YtobkalblncefbaaQx27
namespace Go.Proofs.Ytobkalblncefbaa.Q
open Go.RowKit Go.Proofs.YtobkalblncefbaaW.PrintWords Go.Proofs.YtobkalblncefbaaW.PrintLast Go.Proofs.YtobkalblncefbaaW.PrintMore
set_option linter.unusedVariables false
set_option linter.unusedSimpArgs false

theorem wn (x : Int) (n : Nat) (h : x = (n : Int)) (hb : n ≤ 1000000) : wrap64 x = (n : Int) := by
  rw [w64 x (by omega) (by omega), h]
theorem wf_le (x : Int) (h : (Lit.int .i64 x).wf = true) : x ≤ 9223372036854775807 := by
  simp [Lit.wf, IntKind.min, IntKind.max, IntKind.signed, IntKind.bits] at h
  omega
def err1 : ByteArray × Int := (⟨#[]⟩, 1)
/-- Is the length told as it is? -/
def fits (l : List Int) (n : Nat) : Prop := n ≤ 60 ∧ l.length = 1 + (n + 6) / 7 ∧ rd l 0 = (n : Int)
theorem shr_at (x : Int) (t : Nat) (ht : t ≤ 6) : shr .i64 x (wrap64 (8 * (t : Int))) = x / 256 ^ t := by
  rw [w64 _ (by omega) (by omega)]
  have e : (8 * (t : Int)).toNat = 8 * t := by omega
  have p : (2 : Int) ^ (8 * t) = 256 ^ t := by rw [Int.pow_mul]; rfl
  unfold shr
  rw [e, Nat.min_eq_left (by simp [IntKind.bits]; omega), p]

theorem up_l0 (l : List Int) (n : Nat) (hf : fits l n) (d : Nat) : ∀ b, b + d = n →
    Ev (fun k => strs_Unpack.l0 k l (D l b) (n : Int) (b : Int)) (if packL (D l n) = l then (strOfNums (D l n), 0) else err1) := by
  obtain ⟨hn, hl, h0⟩ := hf
  induction d with
  | zero =>
    intro b hb
    obtain rfl : b = n := by omega
    refine Ev.step (f := fun k => (strs_Pack.f k (strOfNums (D l b))).bind fun bt213 => ((slices_Equal_int_int.f k bt213.1 l).bind fun t217 => (if t217 = true then (some (strOfNums (D l b), 0)) else (some ((⟨#[]⟩ : ByteArray), 1))))) (fun k => ?_) ?_
    · simp only [strs_Unpack.l0]
      rw [if_neg (by omega)]
    · have hz : (strOfNums (D l b)).size = b := by rw [str_size, D_len]
      have hp := pack_ev (strOfNums (D l b)) (by omega)
      rw [bytes_of_str _ (D_bytes l b)] at hp
      refine Ev.bind hp (Ev.bind (eq_ev _ _ (by rw [packL_len, D_len]; omega)) ?_)
      by_cases h : packL (D l b) = l
      · rw [if_pos h]
        exact Ev.congr (fun k => by rw [decide_eq_true h, if_pos rfl]) (Ev.now _)
      · rw [if_neg h]
        exact Ev.congr (fun k => by rw [decide_eq_false h, if_neg (by decide)]; rfl) (Ev.now _)
  | succ d ih =>
    intro b hb
    have t1 : Int.tdiv (b : Int) 7 = ((b / 7 : Nat) : Int) := by rw [Int.tdiv_eq_ediv_of_nonneg (by omega)]; omega
    have t2 : Int.tmod (b : Int) 7 = ((b % 7 : Nat) : Int) := by rw [Int.tmod_eq_emod_of_nonneg (by omega)]; omega
    have p1 : b / 7 ≤ 1000000 := by omega
    have p2 : 1 + ((b / 7 : Nat) : Int) = ((1 + b / 7 : Nat) : Int) := by omega
    have p3 : (b : Int) + 1 = ((b + 1 : Nat) : Int) := by omega
    have p4 : 8 * ((b % 7 : Nat) : Int) = ((8 * (b % 7) : Nat) : Int) := by omega
    have p5 : 1 + b / 7 ≤ 1000000 := by omega
    have p6 : b + 1 ≤ 1000000 := by omega
    have p7 : 8 * (b % 7) ≤ 1000000 := by omega
    have p8 : b % 7 ≤ 6 := by omega
    have p9 : b + 1 + d = n := by omega
    have c0 : (b : Int) < (n : Int) := by omega
    have c1 : (0 : Int) ≤ ((1 + b / 7 : Nat) : Int) := by omega
    have c2 : ((1 + b / 7 : Nat) : Int) < (l.length : Int) := by omega
    have c4 : (D l b).length < 140737488355328 := by rw [D_len]; omega
    have c3' : (0 : Int) ≤ ((8 * (b % 7) : Nat) : Int) := by omega
    have w1 := wn ((b / 7 : Nat) : Int) (b / 7) rfl p1
    have w2 := wn _ _ p2 p5
    have w3 := wn _ _ p3 p6
    have c3 : 0 ≤ wrap64 (8 * ((b % 7 : Nat) : Int)) := by rw [wn _ _ p4 p7]; exact c3'
    have hsh := shr_at (rd l ((1 + b / 7 : Nat) : Int)) (b % 7) p8
    have hi := ih (b + 1) p9
    rw [D_succ] at hi
    refine Ev.step (fun k => ?_) hi
    simp only [strs_Unpack.l0, t1, t2, w1, w2, w3, if_pos c0, if_pos c1, if_pos c2, if_pos c3, if_pos c4, hsh]

theorem up_ev (l : List Int) (n : Nat) (hf : fits l n) : Ev (fun k => strs_Unpack.f k l) (if packL (D l n) = l then (strOfNums (D l n), 0) else err1) := by
  have h := up_l0 l n hf n 0 (by omega)
  obtain ⟨hn, hl, h0⟩ := hf
  refine Ev.congr (f := fun k => strs_Unpack.j0 k l false) (fun k => ?_) (Ev.step (fun k => ?_) h)
  · unfold strs_Unpack.f
    have t1 : Int.tdiv ((n + 6 : Nat) : Int) 7 = (((n + 6) / 7 : Nat) : Int) := by rw [Int.tdiv_eq_ediv_of_nonneg (by omega)]; omega
    have d1 : ¬ (l.length : Int) = 0 := by omega
    have d2 : 0 < (l.length : Int) := by omega
    have d3 : ¬ (n : Int) < 0 := by omega
    have d4 : ¬ (n : Int) > 60 := by omega
    have w1 := wn ((n : Int) + 7) (n + 7) (by omega) (by omega)
    have w2 := wn (((n + 7 : Nat) : Int) - 1) (n + 6) (by clear w1; omega) (by clear w1; omega)
    have w3 := wn (((n + 6) / 7 : Nat) : Int) ((n + 6) / 7) rfl (by clear w1 w2; omega)
    have w4 := wn ((l.length : Int) - 1) ((n + 6) / 7) (by clear w1 w2 w3; omega) (by clear w1 w2 w3; omega)
    rw [if_neg d1, if_pos d2, h0, if_neg d3, if_neg d4, w1, w2, t1, w3, w4]
    simp
  · simp only [strs_Unpack.j0]
    rw [if_neg (by decide), if_pos (by omega), h0]
    rfl
/-- Every list that does not fit is refused. -/
theorem up_no (l : List Int) (hz : l.length ≤ 100000) (h : ∀ n, ¬ fits l n) : Ev (fun k => strs_Unpack.f k l) err1 := by
  refine Ev.congr (f := fun k => strs_Unpack.j0 k l true) (fun k => ?_) (Ev.step (f := fun k => some err1) (fun k => ?_) (Ev.now _))
  · unfold strs_Unpack.f
    by_cases c0 : (l.length : Int) = 0
    · rw [if_pos c0]
    rw [if_neg c0, if_pos (by omega)]
    by_cases c1 : rd l 0 < 0
    · rw [if_pos c1]
    rw [if_neg c1]
    by_cases c2 : rd l 0 > 60
    · rw [if_pos c2]
    rw [if_neg c2]
    have hh := h (rd l 0).toNat
    have hn : ((rd l 0).toNat : Int) = rd l 0 := by omega
    have hlen : ¬ l.length = 1 + ((rd l 0).toNat + 6) / 7 := fun e => hh ⟨by omega, e, hn.symm⟩
    generalize rd l 0 = x at *
    obtain ⟨n, rfl⟩ := Int.eq_ofNat_of_zero_le (show 0 ≤ x by omega)
    rw [Int.toNat_natCast] at hlen
    have t1 : Int.tdiv ((n + 6 : Nat) : Int) 7 = (((n + 6) / 7 : Nat) : Int) := by rw [Int.tdiv_eq_ediv_of_nonneg (by omega)]; omega
    have hne : ((((n + 6) / 7 : Nat) : Int) != ((l.length - 1 : Nat) : Int)) = true := bne_iff_ne.mpr (by omega)
    have w1 := wn ((n : Int) + 7) (n + 7) (by omega) (by omega)
    have w2 := wn (((n + 7 : Nat) : Int) - 1) (n + 6) (by clear w1; omega) (by clear w1; omega)
    have w3 := wn (((n + 6) / 7 : Nat) : Int) ((n + 6) / 7) rfl (by clear w1 w2; omega)
    have w4 := wn ((l.length : Int) - 1) (l.length - 1) (by clear w1 w2 w3; omega) (by clear w1 w2 w3; omega)
    rw [w1, w2, t1, w3, w4, hne]
  · simp only [strs_Unpack.j0]
    rw [if_pos (by trivial)]
    rfl

/-! The reference's. -/
theorem ru_l0_yes (l : List Int) (n : Nat) (hn : n ≤ 60) (hl0 : 0 < l.length) (h0 : rd l 0 = (n : Int)) (r : ByteArray × Int)
    (h : Ev (fun k => if (l.length : Int) = ((1 + (n + 6) / 7 : Nat) : Int) then (selvageref03_Unpack.l1 k l ([] : List Int) 1) else (some ((⟨#[]⟩ : ByteArray), 1))) r) (d : Nat) : ∀ x, 1 ≤ x → x + d = 1 + (n + 6) / 7 → Ev (fun k => selvageref03_Unpack.l0 k l (x : Int)) r := by
  induction d with
  | zero =>
    intro x hx hd
    have c1 : (0 : Int) < (l.length : Int) := by omega
    have c2 : ¬ ((7 * (x - 1) : Nat) : Int) < (n : Int) := by omega
    have e : x = 1 + (n + 6) / 7 := by omega
    have p1 : (x : Int) - 1 = ((x - 1 : Nat) : Int) := by omega
    have p2 : 7 * ((x - 1 : Nat) : Int) = ((7 * (x - 1) : Nat) : Int) := by omega
    have p3 : x - 1 ≤ 1000000 := by omega
    have p4 : 7 * (x - 1) ≤ 1000000 := by omega
    have w1 := wn _ _ p1 p3
    have w2 := wn _ _ p2 p4
    refine Ev.step (fun k => ?_) h
    simp only [selvageref03_Unpack.l0, w1, w2, if_pos c1, h0, if_neg c2]
    rw [e]
  | succ d ih =>
    intro x hx hd
    have c1 : (0 : Int) < (l.length : Int) := by omega
    have c2 : ((7 * (x - 1) : Nat) : Int) < (n : Int) := by omega
    have p1 : (x : Int) - 1 = ((x - 1 : Nat) : Int) := by omega
    have p2 : 7 * ((x - 1 : Nat) : Int) = ((7 * (x - 1) : Nat) : Int) := by omega
    have p3 : x - 1 ≤ 1000000 := by omega
    have p4 : 7 * (x - 1) ≤ 1000000 := by omega
    have p5 : (x : Int) + 1 = ((x + 1 : Nat) : Int) := by omega
    have p6 : x + 1 ≤ 1000000 := by omega
    have hi := ih (x + 1) (by omega) (by omega)
    have w1 := wn _ _ p1 p3
    have w2 := wn _ _ p2 p4
    have w3 := wn _ _ p5 p6
    refine Ev.step (fun k => ?_) hi
    simp only [selvageref03_Unpack.l0, w1, w2, w3, if_pos c1, h0, if_pos c2]
theorem ru_no (l : List Int) (hz : l.length ≤ 100000) (h : ∀ n, ¬ fits l n) : Ev (fun k => selvageref03_Unpack.f k l) err1 := by
  by_cases c0 : (l.length : Int) = 0
  · refine Ev.congr (f := fun k => selvageref03_Unpack.j0 k l true) (fun k => ?_) (Ev.step (f := fun k => some err1) (fun k => ?_) (Ev.now _))
    · unfold selvageref03_Unpack.f
      rw [if_pos c0]
    · simp only [selvageref03_Unpack.j0]
      rw [if_pos (by trivial)]
      rfl
  by_cases c1 : rd l 0 < 0 ∨ rd l 0 > 60
  · refine Ev.congr (f := fun k => selvageref03_Unpack.j0 k l true) (fun k => ?_) (Ev.step (f := fun k => some err1) (fun k => ?_) (Ev.now _))
    · unfold selvageref03_Unpack.f
      rw [if_neg c0, if_pos (by omega)]
      by_cases x : rd l 0 < 0
      · rw [if_pos x]
      · rw [if_neg x, decide_eq_true (by omega)]
    · simp only [selvageref03_Unpack.j0]
      rw [if_pos (by trivial)]
      rfl
  have hh := h (rd l 0).toNat
  have hn : rd l 0 = ((rd l 0).toNat : Int) := by omega
  have hlen : ¬ l.length = 1 + ((rd l 0).toNat + 6) / 7 := fun e => hh ⟨by omega, e, hn⟩
  refine Ev.congr (f := fun k => selvageref03_Unpack.j0 k l false) (fun k => ?_) (Ev.step (f := fun k => selvageref03_Unpack.l0 k l 1) (fun k => ?_) (ru_l0_yes l _ (by omega) (by omega) hn _ ?_ ((rd l 0).toNat + 6 |> (· / 7)) 1 (Nat.le_refl _) (by rfl)))
  · unfold selvageref03_Unpack.f
    rw [if_neg c0, if_pos (by omega), if_neg (by omega), decide_eq_false (by omega)]
  · simp only [selvageref03_Unpack.j0]
    rw [if_neg (by decide)]
  · exact Ev.congr (fun k => by rw [if_neg (by omega)]; rfl) (Ev.now _)

theorem div_step (x : Int) (t : Nat) : x / 256 ^ t / 256 = x / 256 ^ (t + 1) := by
  rw [Int.pow_succ, Int.ediv_ediv_of_nonneg (Int.le_of_lt (pow_pos t))]
theorem div_le (x : Int) (t : Nat) (h : 0 ≤ x) : 0 ≤ x / 256 ^ t ∧ x / 256 ^ t ≤ x :=
  ⟨Int.ediv_nonneg h (Int.le_of_lt (pow_pos t)), Int.ediv_le_self _ h⟩
theorem div_zero_iff (x P : Int) (hx : 0 ≤ x) (hP : 0 < P) : x / P = 0 ↔ x < P := by
  constructor
  · intro h
    have h3 := Int.mul_ediv_add_emod x P
    have h2 := Int.emod_lt_of_pos x hP
    rw [h, Int.mul_zero] at h3
    omega
  · intro h
    exact Int.ediv_eq_zero_of_lt hx h

/-- One number's bytes. -/
theorem ru_l2 (l : List Int) (n : Nat) (hf : fits l n) (i : Nat) (hi : i < (n + 6) / 7) (x : Int) (hx : rd l ((1 + i : Nat) : Int) = x) (hx0 : 0 ≤ x) (hx1 : x ≤ 9223372036854775807) (r : ByteArray × Int) (m : Nat) (hm : m = min 7 (n - 7 * i))
    (h : Ev (fun k => if x / 256 ^ m = 0 then (selvageref03_Unpack.l1 k l (D l (7 * i + m)) ((1 + i + 1 : Nat) : Int)) else (some ((⟨#[]⟩ : ByteArray), 1))) r) (d : Nat) :
    ∀ t, t + d = m → Ev (fun k => selvageref03_Unpack.l2 k l (D l (7 * i + t)) ((1 + i : Nat) : Int) (x / 256 ^ t) (t : Int)) r := by
  obtain ⟨hn, hl, h0⟩ := hf
  have c0 : (0 : Int) < (l.length : Int) := by omega
  have p0 : ((1 + i : Nat) : Int) + 1 = ((1 + i + 1 : Nat) : Int) := by omega
  have p1 : 1 + i + 1 ≤ 1000000 := by omega
  induction d with
  | zero =>
    intro t ht
    obtain rfl : t = m := by omega
    refine Ev.step (fun k => ?_) h
    by_cases c7 : t = 7
    · have c1 : ¬ (t : Int) < 7 := by omega
      have w3 := wn _ _ p0 p1
      simp only [selvageref03_Unpack.l2, if_neg c1, w3]
    · have c1 : (t : Int) < 7 := by omega
      have c2 : ¬ ((D l (7 * i + t)).length : Int) < (n : Int) := by rw [D_len]; omega
      have w3 := wn _ _ p0 p1
      simp only [selvageref03_Unpack.l2, if_pos c1, if_pos c0, h0, if_neg c2, w3]
  | succ d ih =>
    intro t ht
    have c1 : (t : Int) < 7 := by omega
    have c2 : ((D l (7 * i + t)).length : Int) < (n : Int) := by rw [D_len]; omega
    have c3 : (D l (7 * i + t)).length < 140737488355328 := by rw [D_len]; omega
    have p2 : (t : Int) + 1 = ((t + 1 : Nat) : Int) := by omega
    have p3 : t + 1 ≤ 1000000 := by omega
    have i7 : (7 * i + t) / 7 = i := by omega
    have t7 : (7 * i + t) % 7 = t := by omega
    have hi := ih (t + 1) (by omega)
    rw [← Nat.add_assoc, D_succ, i7, t7, hx, ← div_step] at hi
    have hd := div_le x t hx0
    generalize x / 256 ^ t = y at *
    have e1 : Int.tmod y 256 % 256 = y % 256 := by rw [Int.tmod_eq_emod_of_nonneg hd.1]; omega
    have y1 : -9223372036854775808 ≤ y / 256 := by omega
    have y2 : y / 256 ≤ 9223372036854775807 := by omega
    have e2 : wrap64 (Int.tdiv y 256) = y / 256 := by rw [Int.tdiv_eq_ediv_of_nonneg hd.1, w64 _ y1 y2]
    have w1 := wn _ _ p2 p3
    refine Ev.step (fun k => ?_) hi
    simp only [selvageref03_Unpack.l2, if_pos c1, if_pos c0, h0, if_pos c2, if_pos c3, e1, e2, w1]
/-- From number i on, all before it being right. -/
theorem ru_l1_ok (l : List Int) (n : Nat) (hf : fits l n) (hw : ∀ x ∈ l, (Lit.int .i64 x).wf = true) (d : Nat) : ∀ i, i + d = (n + 6) / 7 → (∀ j, i ≤ j → j < (n + 6) / 7 → okw l n j) →
    Ev (fun k => selvageref03_Unpack.l1 k l (D l (min (7 * i) n)) ((1 + i : Nat) : Int)) (strOfNums (D l n), 0) := by
  have hf' := hf
  obtain ⟨hn, hl, h0⟩ := hf
  induction d with
  | zero =>
    intro i hi _
    have c : ¬ ((1 + i : Nat) : Int) < (l.length : Int) := by omega
    have e : min (7 * i) n = n := by omega
    refine Ev.step (fun k => ?_) (Ev.now _)
    simp only [selvageref03_Unpack.l1, if_neg c, e]
  | succ d ih =>
    intro i hi hok
    have c : ((1 + i : Nat) : Int) < (l.length : Int) := by omega
    have c1 : (0 : Int) ≤ ((1 + i : Nat) : Int) := by omega
    have ho := hok i (Nat.le_refl _) (by omega)
    have c2 : ¬ rd l ((1 + i : Nat) : Int) < 0 := by have := ho.1; omega
    have e : min (7 * i) n = 7 * i := by omega
    have hlt : 1 + i < l.length := by omega
    have hbig : rd l ((1 + i : Nat) : Int) ≤ 9223372036854775807 := by
      have hm : rd l ((1 + i : Nat) : Int) ∈ l := by unfold rd; rw [Int.toNat_natCast, List.getD_eq_getElem?_getD, List.getElem?_eq_getElem hlt]; exact List.getElem_mem hlt
      exact wf_le _ (hw _ hm)
    have hrec := ih (i + 1) (by omega) (fun j h1 h2 => hok j (by omega) h2)
    have e2 : min (7 * (i + 1)) n = 7 * i + min 7 (n - 7 * i) := by omega
    rw [e2] at hrec
    have hz := (div_zero_iff (rd l ((1 + i : Nat) : Int)) (256 ^ (min 7 (n - 7 * i))) ho.1 (pow_pos _)).2 ho.2
    have h2 := ru_l2 l n hf' i (by omega) _ rfl ho.1 hbig _ _ rfl (Ev.congr (fun k => by rw [if_pos hz]; rfl) hrec) (min 7 (n - 7 * i)) 0 (by omega)
    refine Ev.step (fun k => ?_) h2
    simp only [selvageref03_Unpack.l1, if_pos c, if_pos c1, if_neg c2, e]
    simp
theorem ru_l1_bad (l : List Int) (n : Nat) (hf : fits l n) (hw : ∀ x ∈ l, (Lit.int .i64 x).wf = true) (d : Nat) : ∀ i, i + d = (n + 6) / 7 → (∃ j, i ≤ j ∧ j < (n + 6) / 7 ∧ ¬ okw l n j) →
    Ev (fun k => selvageref03_Unpack.l1 k l (D l (min (7 * i) n)) ((1 + i : Nat) : Int)) err1 := by
  have hf' := hf
  obtain ⟨hn, hl, h0⟩ := hf
  induction d with
  | zero =>
    rintro i hi ⟨j, h1, h2, _⟩
    omega
  | succ d ih =>
    rintro i hi ⟨j, hj1, hj2, hj3⟩
    have c : ((1 + i : Nat) : Int) < (l.length : Int) := by omega
    have c1 : (0 : Int) ≤ ((1 + i : Nat) : Int) := by omega
    by_cases c2 : rd l ((1 + i : Nat) : Int) < 0
    · refine Ev.step (fun k => ?_) (Ev.now _)
      simp only [selvageref03_Unpack.l1, if_pos c, if_pos c1, if_pos c2]
      rfl
    have e : min (7 * i) n = 7 * i := by omega
    have hlt : 1 + i < l.length := by omega
    have hbig : rd l ((1 + i : Nat) : Int) ≤ 9223372036854775807 := by
      have hm : rd l ((1 + i : Nat) : Int) ∈ l := by unfold rd; rw [Int.toNat_natCast, List.getD_eq_getElem?_getD, List.getElem?_eq_getElem hlt]; exact List.getElem_mem hlt
      exact wf_le _ (hw _ hm)
    have hx0 : 0 ≤ rd l ((1 + i : Nat) : Int) := by omega
    have e2 : min (7 * (i + 1)) n = 7 * i + min 7 (n - 7 * i) := by omega
    have hz := div_zero_iff (rd l ((1 + i : Nat) : Int)) (256 ^ (min 7 (n - 7 * i))) hx0 (pow_pos _)
    have h2 := fun h => ru_l2 l n hf' i (by omega) _ rfl hx0 hbig err1 _ rfl h (min 7 (n - 7 * i)) 0 (by omega)
    refine Ev.step (fun k => ?_) (h2 ?_)
    · simp only [selvageref03_Unpack.l1, if_pos c, if_pos c1, if_neg c2, e]
      simp
    · by_cases hq : rd l ((1 + i : Nat) : Int) / 256 ^ (min 7 (n - 7 * i)) = 0
      · have hij : i ≠ j := fun e => hj3 (by rw [← e]; exact ⟨hx0, hz.1 hq⟩)
        have hrec := ih (i + 1) (by omega) ⟨j, by omega, hj2, hj3⟩
        rw [e2] at hrec
        exact Ev.congr (fun k => by rw [if_pos hq]; rfl) hrec
      · exact Ev.congr (fun k => by rw [if_neg hq]; rfl) (Ev.now _)
theorem ru_ev (l : List Int) (n : Nat) (hf : fits l n) (hw : ∀ x ∈ l, (Lit.int .i64 x).wf = true) : Ev (fun k => selvageref03_Unpack.f k l) (if packL (D l n) = l then (strOfNums (D l n), 0) else err1) := by
  have hp := pack_D l n hf.2.1 hf.2.2
  have hrest : Ev (fun k => selvageref03_Unpack.l1 k l ([] : List Int) 1) (if packL (D l n) = l then (strOfNums (D l n), 0) else err1) := by
    by_cases h : packL (D l n) = l
    · rw [if_pos h]
      have := ru_l1_ok l n hf hw ((n + 6) / 7) 0 (by omega) (fun j _ hj => hp.1 h j hj)
      rwa [show min (7 * 0) n = 0 from by omega] at this
    · rw [if_neg h]
      have hex : ∃ j, 0 ≤ j ∧ j < (n + 6) / 7 ∧ ¬ okw l n j := by
        by_cases hh : ∃ j, 0 ≤ j ∧ j < (n + 6) / 7 ∧ ¬ okw l n j
        · exact hh
        · exact absurd (hp.2 (fun i hi => Classical.byContradiction (fun hno => hh ⟨i, Nat.zero_le _, hi, hno⟩))) h
      have := ru_l1_bad l n hf hw ((n + 6) / 7) 0 (by omega) hex
      rwa [show min (7 * 0) n = 0 from by omega] at this
  obtain ⟨hn, hl, h0⟩ := hf
  refine Ev.congr (f := fun k => selvageref03_Unpack.j0 k l false) (fun k => ?_) (Ev.step (f := fun k => selvageref03_Unpack.l0 k l 1) (fun k => ?_) (ru_l0_yes l n hn (by omega) h0 _ ?_ ((n + 6) / 7) 1 (Nat.le_refl _) rfl))
  · unfold selvageref03_Unpack.f
    rw [if_neg (by omega), if_pos (by omega), if_neg (by omega), decide_eq_false (by omega)]
  · simp only [selvageref03_Unpack.j0]
    rw [if_neg (by decide)]
  · exact Ev.congr (fun k => by rw [if_pos (by omega)]) hrest
end Go.Proofs.Ytobkalblncefbaa.Q
