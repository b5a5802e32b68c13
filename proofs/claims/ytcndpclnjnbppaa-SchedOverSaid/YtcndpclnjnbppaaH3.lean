import Derived.Test.YtcndpclnjnbppaaH2
import Derived.Outline
namespace Go.Proofs.Ytcndpclnjnbppaa.Q
open Go.RowKit Go.Proofs.YtcndpclnjnbppaaW.PrintWords Go.Proofs.YtcndpclnjnbppaaW.PrintLast Go.Proofs.YtcndpclnjnbppaaW.PrintMore
set_option linter.unusedVariables false
set_option linter.unusedSimpArgs false
set_option maxHeartbeats 2000000 in
/-- (*Table).of: those of which something is so; the closure by its contract. -/
theorem t_of (p : S54 → Bool) (F : Nat) (fn : Func) (caps : Array Value) (hF : Try.prog.funcs[F]? = some fn) (hname : (fn.name == "runtime.NumGoroutine") = false) (hbody : fn.body.isSome = true)
    (g : Nat) (l : List S54) (A : Option Addr) (c : Nat) (w : World) (hcell : w.cell? ⟨g, 0, none⟩ = some (.slice A l.length c)) (hc : l.length ≤ c) (hC : k54.C w A l.length l) (hl : l.length ≤ 8)
    (hcall : ∀ (x : S54) (A : Option Addr) (c : Nat) (W : World), x ∈ l → Below w.heap.size w W → x.f1.length ≤ c → Kd.C (Kd.int .i64) W A x.f1.length x.f1 → Calls Try.prog F (#[.agg #[.int .i64 x.f0, .slice A x.f1.length c]] ++ caps) W fun e w' => e = .returned (.bool (p x)) ∧ Below W.heap.size W w') :
    Calls Try.prog 28 #[.pointer (some ⟨g, 0, none⟩), .func (.func F) #[] caps] w fun e w' => ∃ v, e = .returned v ∧ Kd.R (Kd.int .i64) 3 w' w.heap.size (fun _ => True) v (tOf p l) ∧ Below w.heap.size w w' := by
  have hu50 := Try.underlying50
  have hu54 := Try.underlying54
  have HC := Aside0.mk hC
  have HCALL := Aside0.mk hcall
  have HL := Aside0.mk hl
  clear hC hcall
  go_enter Try.func28, Try.ntmps28
  go_wp2
  go_loopg [5, 13] l.length (fun kq v5 v13 w' => ∃ (i : Nat), v13 = .int .i64 (i : Int) ∧ Aside0 (i + kq = l.length) ∧ Aside0 (Kd.R (Kd.int .i64) 3 w' w.heap.size (fun _ => True) v5 (ofTo p l i)) ∧ Aside0 (Below w.heap.size w w'))
  case atStart => exact ⟨0, rfl, ⟨by omega⟩, ⟨Kd.R_nil _ _ _ _ _⟩, ⟨Below.refl _ _⟩⟩
  case round =>
    obtain ⟨i, rfl, HK, HO, HB⟩ := hrel
    cases gk with
    | zero =>
      have hd : decide (i < l.length) = false := decide_eq_false (by have := HK.out; omega)
      have hi : i = l.length := by have := HK.out; omega
      have HI := Aside0.mk hi
      clear hi
      go_wp2
      go_ret
      exact ⟨_, rfl, by have := HO.out; rw [HI.out] at this; exact this, HB.out⟩
    | succ k1 =>
      have hi : i < l.length := by have := HK.out; omega
      have hd : decide (i < l.length) = true := decide_eq_true (by omega)
      have p1 : (0 : Int) ≤ (i : Int) := by omega
      have q1 : (i : Int) < (l.length : Int) := by omega
      obtain ⟨ad, A1, c1, e, hx0, hx1, hlc1, hC1⟩ := at_T54 HC.out (i : Int) p1 q1
      cases e
      rw [Int.toNat_natCast] at hx0 hx1
      replace hx0 := (HB.out.cell (World.block_lt_of_cell? w _ hx0)).trans hx0
      replace hx1 := (HB.out.cell (World.block_lt_of_cell? w _ hx1)).trans hx1
      have HC1 := Aside0.mk hC1
      have HL1 := Aside0.mk hlc1
      clear hC1 hlc1
      have hm : rd_T54 l (i : Int) ∈ l := by
        unfold rd_T54
        rw [List.getD_eq_getElem?_getD, Int.toNat_natCast, List.getElem?_eq_getElem hi]
        exact List.getElem_mem hi
      have HM := Aside0.mk hm
      clear hm
      have HS := Aside0.mk (ofTo_succ p l i)
      have HLEN := Aside0.mk (ofTo_len p l i)
      have HI := Aside0.mk hi
      replace p1 := eq_true p1
      replace q1 := eq_true q1
      have hgd : l.getD i z54 = rd_T54 l (i : Int) := by unfold rd_T54; rw [Int.toNat_natCast]
      rw [hgd] at HS
      clear hgd
      generalize hx : rd_T54 l (i : Int) = x at *
      have hcl : ∀ (W : World), Below w.heap.size w W → Calls Try.prog F (#[.agg #[.int .i64 x.f0, .slice A1 x.f1.length c1]] ++ caps) W fun e w' => e = .returned (.bool (p x)) ∧ Below W.heap.size W w' := fun W hW => HCALL.out x A1 c1 W HM.out hW HL1.out (Kd.C_below HC1.out hW)
      have HCL := Aside0.mk hcl
      clear hcl hx
      have he : ∀ (args : Array Value) (W : World), (callFunc F args).run Try.prog W = .ok (.enter F args) W := fun args W => enters_ hF hname hbody args W
      by_cases hp : p x = true
      all_goals first | (rw [hp] at HCL HS; rw [if_pos rfl] at HS) | (replace hp := Bool.eq_false_iff.2 hp; rw [hp] at HCL HS; rw [if_neg (by decide), List.append_nil] at HS)
      all_goals go_wp2_with fail
      all_goals refine (HCL.out _ (below_alloc HB.out _)).mono ?_
      all_goals rintro e w1 ⟨rfl, hb⟩
      all_goals have HB1 := Aside0.mk (below_step (below_alloc HB.out _) hb)
      all_goals have HO1 := Aside0.mk (Kd.R_below (Kd.R_alloc HO.out _) hb)
      all_goals clear HB HO hb he
      · go_wp2_with (first | ((with_reducible refine gate_builtin (b := .append) (xs := #[.tmp 21, .tmp 23]) rfl ?_); at_builtin; refine Kd.R_append (Kd.int .i64) (w0 := w) w.heap.size rfl (.tmp 21) (.tmp 23) 22 3 (.int .i64 0) 8 rfl Try.underlying22 info3 rfl (by decide) (by omega) u5 (ofTo p l i) (i : Int) [.int .i64 (i : Int)] (fun _ => True) (fun _ => False) rfl rfl rfl (fun _ hk => hk.elim) (fun _ _ => trivial) HO1.out HB1.out (below_size HB1.out) (by have := HLEN.out; have := HI.out; have := HL.out; omega) ?_; intro v5' w6 ho hb _ _; rw [← HS.out] at ho; have HB2 := Aside0.mk hb; have HO2 := Aside0.mk ho; clear HB1 HO1 ho hb))
        go_roundg k1
        case measure => omega
        case rel => exact ⟨i + 1, by simp, ⟨by have := HK.out; omega⟩, HO2, HB2⟩
      · go_wp2
        go_roundg k1
        case measure => omega
        case rel => exact ⟨i + 1, by simp, ⟨by have := HK.out; omega⟩, ⟨by rw [HS.out]; exact HO1.out⟩, HB1⟩
end Go.Proofs.Ytcndpclnjnbppaa.Q
