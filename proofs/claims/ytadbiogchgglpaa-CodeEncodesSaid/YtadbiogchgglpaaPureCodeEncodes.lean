import Derived.Test.YtadbiogchgglpaaQx18
import Derived.Test.YtadbiogchgglpaaS5
namespace Go.Proofs.Ytadbiogchgglpaa.Pure
open Go.RowKit Go.Proofs.Ytadbiogchgglpaa.Q Go.Proofs.YtadbiogchgglpaaW.PrintWords Go.Proofs.YtadbiogchgglpaaW.PrintLast
set_option linter.unusedVariables false
set_option linter.unusedSimpArgs false

theorem CodeEncodes (l0 : List S40) (l1 : List Int) (l2 : List ByteArray) (a3 : Int) : ∃ k, selvagelaw13_CodeEncodes.f k l0 l1 l2 a3 = some true := by
  refine Ev.rounds (g := fun k => selvagelaw13_CodeEncodes.f k l0 l1 l2 a3) ?_
  unfold selvagelaw13_CodeEncodes.f
  obtain ⟨⟨c0, c1, c2, b3⟩, hr, h6, h60, h61, h62, h70⟩ := cut_ev l0 l1 l2 a3
  refine Ev.bind hr ?_
  have hi : ∀ f ∈ c0, f.f3.length ≤ 1000000 := fun f hf => by have := h60 f hf; omega
  have h6' : c0.length ≤ 6 := h6
  have hc : c0.length ≤ 1000000 := by omega
  refine Ev.bind (enc_ev c0 c1 c2 b3 hc hi) ?_
  refine Ev.bind (renc_ev c0 c1 c2 b3 hc hi) ?_
  have hs : ∀ l, selvagelaw13_same.f l l = some true := fun l => by unfold selvagelaw13_same.f; rw [beq_self_eq_true]
  refine Ev.bind (Ev.congr (fun _ => hs _) (Ev.now true)) ?_
  refine Ev.congr (fun k => if_pos rfl) ?_
  refine Ev.congr (fun k => if_pos rfl) ?_
  refine Ev.bind (may_ev c0 c1 c2 b3 hc hi) ?_
  refine Ev.bind (rmay_ev c0 c1 c2 b3 hc hi) ?_
  exact Ev.congr (fun k => if_pos (by rw [beq_self_eq_true])) lives_end
end Go.Proofs.Ytadbiogchgglpaa.Pure
