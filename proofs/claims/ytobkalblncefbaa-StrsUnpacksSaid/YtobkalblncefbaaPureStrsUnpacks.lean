/- For every list of numbers (its first 15), Go's strs.Unpack unpacks just the reference's string, or refuses it as the reference does, and what is unpacked is packed as these numbers: the law StrsUnpacks returns true. Conditions: none. -/
import Derived.Test.YtobkalblncefbaaQx28
import Derived.Test.YtobkalblncefbaaS9
namespace Go.Proofs.Ytobkalblncefbaa.Pure
open Go.RowKit Go.Proofs.Ytobkalblncefbaa.Q Go.Proofs.YtobkalblncefbaaW.PrintWords Go.Proofs.YtobkalblncefbaaW.PrintLast
set_option linter.unusedVariables false
theorem core (l : List Int) (hl : l.length ≤ 15) (hw : ∀ x ∈ l, (Lit.int .i64 x).wf = true) :
    Ev (fun k => (strs_Unpack.f k l).bind fun bt238 => ((selvageref03_Unpack.f k l).bind fun bt240 => (if bt238.1.toList = bt240.1.toList then (if bt238.2 = bt240.2 then (if bt238.2 = 0 then ((strs_Pack.f k bt238.1).bind fun bt242 => ((selvageref02_SameInts.f k bt242.1 l).bind fun t246 => (if t246 = true then (if bt242.2 = 0 then ((selvagelaw03_lives.f k).bind fun t247 => (some t247)) else (some false)) else (some false)))) else ((selvagelaw03_lives.f k).bind fun t248 => (some t248))) else (some false)) else (some false)))) true := by
  have herr : Ev (fun k => (if err1.1.toList = err1.1.toList then (if err1.2 = err1.2 then (if err1.2 = 0 then ((strs_Pack.f k err1.1).bind fun bt242 => ((selvageref02_SameInts.f k bt242.1 l).bind fun t246 => (if t246 = true then (if bt242.2 = 0 then ((selvagelaw03_lives.f k).bind fun t247 => (some t247)) else (some false)) else (some false)))) else ((selvagelaw03_lives.f k).bind fun t248 => (some t248))) else (some false)) else (some false))) true :=
    Ev.congr (fun k => by rw [if_pos rfl, if_pos rfl, if_neg (by decide)]) lives_end
  by_cases hf : ∃ n, fits l n
  · obtain ⟨n, hf⟩ := hf
    by_cases hp : packL (D l n) = l
    · have h1 := up_ev l n hf
      have h2 := ru_ev l n hf hw
      rw [if_pos hp] at h1 h2
      refine Ev.bind h1 (Ev.bind h2 ?_)
      have hz : (strOfNums (D l n)).size ≤ 60 := by rw [str_size, D_len]; exact hf.1
      have h3 := pack_ev _ hz
      rw [bytes_of_str _ (D_bytes l n), hp] at h3
      have h4 := same_ev l (by omega)
      refine Ev.congr (f := fun k => (strs_Pack.f k (strOfNums (D l n))).bind fun bt242 => ((selvageref02_SameInts.f k bt242.1 l).bind fun t246 => (if t246 = true then (if bt242.2 = 0 then ((selvagelaw03_lives.f k).bind fun t247 => (some t247)) else (some false)) else (some false)))) (fun k => by rw [if_pos rfl, if_pos rfl, if_pos rfl]) ?_
      refine Ev.bind h3 (Ev.bind h4 ?_)
      exact Ev.congr (fun k => by rw [if_pos rfl, if_pos rfl]) lives_end
    · have h1 := up_ev l n hf
      have h2 := ru_ev l n hf hw
      rw [if_neg hp] at h1 h2
      exact Ev.bind h1 (Ev.bind h2 herr)
  · have h1 := up_no l (by omega) (fun n h => hf ⟨n, h⟩)
    have h2 := ru_no l (by omega) (fun n h => hf ⟨n, h⟩)
    exact Ev.bind h1 (Ev.bind h2 herr)
theorem StrsUnpacks : selvagelaw03_StrsUnpacks.Pure := by
  intro l _ _ hw
  apply Ev.rounds
  by_cases h : (l.length : Int) > 15
  · refine Ev.congr (fun k => ?_) (core (l.take 15) (by simp; omega) (fun x hx => hw x (List.mem_of_mem_take hx)))
    unfold selvagelaw03_StrsUnpacks.f
    rw [if_pos h, if_pos (by omega)]
  · refine Ev.congr (fun k => ?_) (core l (by omega) hw)
    unfold selvagelaw03_StrsUnpacks.f
    rw [if_neg h]
end Go.Proofs.Ytobkalblncefbaa.Pure
