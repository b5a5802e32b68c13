/- For every text, Go's strs.Pack packs the first 150 bytes as just the reference's numbers, or refuses them as the reference does: the law StrsPacks returns true. Conditions: none. -/
import Derived.Test.YtobkalblncefbaaQx14
import Derived.Test.YtobkalblncefbaaS4
namespace Go.Proofs.Ytobkalblncefbaa.Pure
open Go.RowKit Go.Proofs.Ytobkalblncefbaa.Q Go.Proofs.YtobkalblncefbaaW.PrintWords Go.Proofs.YtobkalblncefbaaW.PrintLast
theorem StrsPacks : selvagelaw03_StrsPacks.Pure := by
  intro s _
  apply Ev.rounds
  refine Ev.congr (f := fun k => (strs_Pack.f k (few s)).bind fun a => (selvageref03_Pack.f k (few s)).bind fun b => (selvageref02_SameInts.f k a.1 b.1).bind fun t => if t = true then (if a.2 = b.2 then ((selvagelaw03_lives.f k).bind fun t154 => (some t154)) else (some false)) else (some false)) (fun k => ?_) ?_
  · unfold selvagelaw03_StrsPacks.f
    rw [few_f]
    rfl
  · by_cases hz : (few s).size ≤ 60
    · refine Ev.bind (pack_ev _ hz) (Ev.bind (rpack_ev _ hz) (Ev.bind (same_ev _ ?_) ?_))
      · show (packL (bytesOf (few s))).length ≤ 100000
        rw [packL_len, bytesOf_len]
        omega
      · exact Ev.congr (fun k => by rw [if_pos rfl, if_pos rfl]) lives_end
    · refine Ev.bind ⟨0, fun k _ => pack_long _ (by omega) k⟩ (Ev.bind ⟨0, fun k _ => rpack_long _ (by omega) k⟩ (Ev.bind (same_ev [] (by decide)) ?_))
      exact Ev.congr (fun k => by rw [if_pos rfl, if_pos rfl]) lives_end
end Go.Proofs.Ytobkalblncefbaa.Pure
