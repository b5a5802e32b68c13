import Derived.Test.YtadbiogchgglpaaQx21
import Derived.Test.YtadbiogchgglpaaS4
namespace Go.Proofs.Ytadbiogchgglpaa.Pure
open Go.RowKit Go.Proofs.Ytadbiogchgglpaa.Q Go.Proofs.YtadbiogchgglpaaW.PrintWords Go.Proofs.YtadbiogchgglpaaW.PrintLast
set_option linter.unusedVariables false
set_option linter.unusedSimpArgs false

def sumT : List ByteArray → Nat
  | [] => 0
  | s :: l => 1 + s.size + sumT l
def sumF : List S40 → Nat
  | [] => 0
  | f :: l => 5 + 5 * f.f3.length + sumF l
theorem sumT_eq : ∀ l, (textsB l).length = sumT l
  | [] => rfl
  | s :: l => by simp [textsB, sumT, textB_len, sumT_eq l]
theorem sumF_eq : ∀ l, (bodiesB l).length = sumF l
  | [] => rfl
  | f :: l => by simp [bodiesB, sumF, bodyB_len, sumF_eq l]
theorem long_l1 (b : List Int) (l0 : List S40) (l1 : List Int) (l2 : List ByteArray) (a3 : Int) (hl : l0.length ≤ 1000) (hf : ∀ f ∈ l0, f.f3.length ≤ 1000) :
    ∀ d p, p + d = l0.length → ∀ x : Nat, x + sumF (l0.drop p) = b.length → b.length ≤ 100000000 → Ev (fun k => selvagelaw13_CodeLong.l1 k b (x : Int) (p : Int) l0 l1 l2 a3) true := by
  intro d
  induction d with
  | zero =>
    intro p hp x hx hb
    rw [List.drop_eq_nil_of_le (by omega), sumF] at hx
    have hxe : (b.length : Int) = (x : Int) := by omega
    refine Ev.step (f := fun k => (selvagelaw13_lives.f k).bind fun t => some t) (fun k => by rw [selvagelaw13_CodeLong.l1, if_neg (by omega), if_pos hxe]) lives_end
  | succ d ih =>
    intro p hp x hx hb
    have hlt : p < l0.length := by omega
    rw [List.drop_eq_getElem_cons hlt, sumF] at hx
    have hfl := hf _ (List.getElem_mem hlt)
    have hg : rd_T40 l0 (p : Int) = l0[p] := rd40_get l0 p hlt
    generalize l0[p] = f at *
    have hih := ih (p + 1) (by omega) (x + 5 + 5 * f.f3.length) (by omega) hb
    have a1 : (x : Int) + 5 = ((x + 5 : Nat) : Int) := by omega
    have a2 : (5 : Int) * (f.f3.length : Int) = ((5 * f.f3.length : Nat) : Int) := by omega
    have a3' : ((x + 5 : Nat) : Int) + ((5 * f.f3.length : Nat) : Int) = ((x + 5 + 5 * f.f3.length : Nat) : Int) := by omega
    have a4 : (p : Int) + 1 = ((p + 1 : Nat) : Int) := by omega
    have b1 : x + 5 ≤ 100000000 := by omega
    have b2 : 5 * f.f3.length ≤ 100000000 := by omega
    have b3 : x + 5 + 5 * f.f3.length ≤ 100000000 := by omega
    have b4 : p + 1 ≤ 100000000 := by omega
    have c1 : (p : Int) < (l0.length : Int) := by omega
    have c2 : (0 : Int) ≤ (p : Int) := by omega
    have e1 := wn _ _ a1 b1
    have e2 := wn _ _ a2 b2
    have e3 := wn _ _ a3' b3
    have e4 := wn _ _ a4 b4
    exact Ev.step (fun k => by rw [selvagelaw13_CodeLong.l1, if_pos c1, if_pos c2, hg, e1, e2, e3, e4]) hih
theorem long_l0 (b : List Int) (l0 : List S40) (l1 : List Int) (l2 : List ByteArray) (a3 : Int) (hl : l0.length ≤ 1000) (hf : ∀ f ∈ l0, f.f3.length ≤ 1000) (h2 : l2.length ≤ 1000) (hs : ∀ s ∈ l2, s.size ≤ 1000) :
    ∀ d p, p + d = l2.length → ∀ x : Nat, x + sumT (l2.drop p) + sumF l0 = b.length → b.length ≤ 100000000 → Ev (fun k => selvagelaw13_CodeLong.l0 k b (x : Int) (p : Int) l0 l1 l2 a3) true := by
  intro d
  induction d with
  | zero =>
    intro p hp x hx hb
    rw [List.drop_eq_nil_of_le (by omega), sumT] at hx
    exact Ev.step (f := fun k => selvagelaw13_CodeLong.l1 k b (x : Int) 0 l0 l1 l2 a3) (fun k => by rw [selvagelaw13_CodeLong.l0, if_neg (by omega)]) (long_l1 b l0 l1 l2 a3 hl hf l0.length 0 (by omega) x (by simpa using hx) hb)
  | succ d ih =>
    intro p hp x hx hb
    have hlt : p < l2.length := by omega
    rw [List.drop_eq_getElem_cons hlt, sumT] at hx
    have hfl := hs _ (List.getElem_mem hlt)
    have hg : rdOf ByteArray.empty l2 (p : Int) = l2[p] := rdOf_get _ l2 p hlt
    generalize l2[p] = s at *
    have hih := ih (p + 1) (by omega) (x + 1 + s.size) (by omega) hb
    have a1 : (x : Int) + 1 = ((x + 1 : Nat) : Int) := by omega
    have a3' : ((x + 1 : Nat) : Int) + (s.size : Int) = ((x + 1 + s.size : Nat) : Int) := by omega
    have a4 : (p : Int) + 1 = ((p + 1 : Nat) : Int) := by omega
    have b1 : x + 1 ≤ 100000000 := by omega
    have b3 : x + 1 + s.size ≤ 100000000 := by omega
    have b4 : p + 1 ≤ 100000000 := by omega
    have c1 : (p : Int) < (l2.length : Int) := by omega
    have c2 : (0 : Int) ≤ (p : Int) := by omega
    have e1 := wn _ _ a1 b1
    have e3 := wn _ _ a3' b3
    have e4 := wn _ _ a4 b4
    exact Ev.step (fun k => by rw [selvagelaw13_CodeLong.l0, if_pos c1, if_pos c2, hg, e1, e3, e4]) hih
theorem CodeLong (l0 : List S40) (l1 : List Int) (l2 : List ByteArray) (a3 : Int) : ∃ k, selvagelaw13_CodeLong.f k l0 l1 l2 a3 = some true := by
  refine Ev.rounds (g := fun k => selvagelaw13_CodeLong.f k l0 l1 l2 a3) ?_
  unfold selvagelaw13_CodeLong.f
  obtain ⟨⟨c0, c1, c2, b3⟩, hr, h6, h60, h61, h62, h70⟩ := cut_ev l0 l1 l2 a3
  refine Ev.bind hr ?_
  have hi : ∀ f ∈ c0, f.f3.length ≤ 1000000 := fun f hf => by have := h60 f hf; omega
  have h6' : c0.length ≤ 6 := h6
  have h61' : c1.length ≤ 6 := h61
  have h62' : c2.length ≤ 6 := h62
  refine Ev.bind (enc_ev c0 c1 c2 b3 (by omega) hi) ?_
  unfold encP
  by_cases hm : mayP c0 c1 c2 b3 = true
  · rw [if_pos hm]
    refine Ev.congr (fun k => if_pos rfl) ?_
    have hf : ∀ f ∈ c0, f.f3.length ≤ 400 := fun f hf => by have := h60 f hf; omega
    have hs : ∀ s ∈ c2, s.size ≤ 60 := fun s h => of_decide_eq_true ((may_parts hm).2.2.2 s h)
    have q1 := bodiesB_le c0 hf
    have q2 := textsB_le c2 hs
    have e1 := sumF_eq c0
    have e2 := sumT_eq c2
    have hlen : (codeB c0 c1 c2 b3).length = 7 + 8 * c1.length + sumT c2 + sumF c0 := by
      unfold codeB; simp [putP_len, e1, e2]; omega
    have a1 : (8 : Int) * (c1.length : Int) = ((8 * c1.length : Nat) : Int) := by omega
    have a2 : (7 : Int) + ((8 * c1.length : Nat) : Int) = ((7 + 8 * c1.length : Nat) : Int) := by omega
    have b1 : 8 * c1.length ≤ 100000000 := by omega
    have b2 : 7 + 8 * c1.length ≤ 100000000 := by omega
    have bb : (codeB c0 c1 c2 b3).length ≤ 100000000 := by omega
    have hx : 7 + 8 * c1.length + sumT (c2.drop 0) + sumF c0 = (codeB c0 c1 c2 b3).length := by rw [hlen]; rfl
    have w1 := wn _ _ a1 b1
    have w2 := wn _ _ a2 b2
    refine Ev.congr (f := fun k => selvagelaw13_CodeLong.l0 k (codeB c0 c1 c2 b3) ((7 + 8 * c1.length : Nat) : Int) 0 c0 c1 c2 b3) (fun k => by rw [w1, w2]) ?_
    exact long_l0 (codeB c0 c1 c2 b3) c0 c1 c2 b3 (by omega) (fun f h => by have := h60 f h; omega) (by omega) (fun s h => by have := hs s h; omega) c2.length 0 (by omega) _ hx bb
  · rw [if_neg hm]
    refine Ev.congr (fun k => if_neg (by decide)) ?_
    refine Ev.congr (fun k => if_pos rfl) ?_
    refine Ev.bind (may_ev c0 c1 c2 b3 (by omega) hi) ?_
    exact Ev.congr (fun k => if_neg hm) lives_end
end Go.Proofs.Ytadbiogchgglpaa.Pure
