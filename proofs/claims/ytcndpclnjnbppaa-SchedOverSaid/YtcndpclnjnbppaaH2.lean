import Derived.Test.YtcndpclnjnbppaaH1
namespace Go.Proofs.Ytcndpclnjnbppaa.Q
open Go.RowKit Go.Proofs.YtcndpclnjnbppaaW.PrintWords Go.Proofs.YtcndpclnjnbppaaW.PrintLast Go.Proofs.YtcndpclnjnbppaaW.PrintMore
set_option linter.unusedVariables false
set_option linter.unusedSimpArgs false
theorem wrap_nat (i : Nat) (h : i ≤ 100000) : wrap64 ((i : Int) + 1) = ((i + 1 : Nat) : Int) := by
  rw [IntWalk.wrap64_in _ ⟨by omega, by omega⟩]
  omega
/-! ### few -/
theorem few_loop (l : List Int) : ∀ (d i k : Nat), i + d = min 12 l.length → d < k → selvagelaw19_few.l0 k l (l.take i) (i : Int) = some (l.take 12)
  | d, i, 0, _, hk => absurd hk (by omega)
  | 0, i, k + 1, hd, _ => by
    simp only [selvagelaw19_few.l0]
    by_cases h : (i : Int) < (l.length : Int)
    · rw [if_pos h, if_neg (by omega), show i = 12 by omega]
    · rw [if_neg h, List.take_of_length_le (by omega), List.take_of_length_le (by omega)]
  | d + 1, i, k + 1, hd, hk => by
    have hi : i < l.length := by omega
    have ht : l.take i ++ [rd l (i : Int)] = l.take (i + 1) := by
      rw [List.take_add_one, List.getElem?_eq_getElem hi]
      simp [rd, List.getD_eq_getElem?_getD, List.getElem?_eq_getElem hi]
    simp only [selvagelaw19_few.l0]
    rw [if_pos (by omega), if_pos (by omega), if_pos (by omega), if_pos (by rw [List.length_take]; omega), ht, wrap_nat i (by omega)]
    exact few_loop l d (i + 1) k (by omega) (by omega)
theorem few_f (l : List Int) : selvagelaw19_few.f 20 l = some (l.take 12) := few_loop l (min 12 l.length) 0 20 (by omega) (by omega)
/-! ### slices.Contains -/
theorem index_loop (l : List Int) (v : Int) (hl : l.length ≤ 100000) : ∀ (d i k : Nat), i + d = l.length → d < k → ∃ r, slices_Index_int_int.l0 k l v (l.length : Int) (i : Int) = some r ∧ decide (r ≥ 0) = (l.drop i).contains v
  | d, i, 0, _, hk => absurd hk (by omega)
  | 0, i, k + 1, hd, _ => by
    simp only [slices_Index_int_int.l0]
    rw [if_neg (by omega), List.drop_eq_nil_of_le (by omega)]
    exact ⟨_, rfl, by simp⟩
  | d + 1, i, k + 1, hd, hk => by
    have hi : i < l.length := by omega
    simp only [slices_Index_int_int.l0]
    rw [if_pos (by omega), if_pos (by omega), if_pos (by omega), List.drop_eq_getElem_cons hi, wrap_nat i (by omega)]
    have hr : rd l (i : Int) = l[i] := by simp [rd, List.getD_eq_getElem?_getD, List.getElem?_eq_getElem hi]
    rw [hr]
    by_cases h : v = l[i]
    · rw [if_pos h]
      exact ⟨_, rfl, by simp [← h]⟩
    · rw [if_neg h]
      obtain ⟨r, h1, h2⟩ := index_loop l v hl d (i + 1) k (by omega) (by omega)
      exact ⟨r, h1, by rw [h2, List.contains_cons]; simp [h]⟩
theorem contains_f (l : List Int) (v : Int) (hl : l.length ≤ 100000) : slices_Contains_int_int.f (l.length + 1) l v = some (l.contains v) := by
  obtain ⟨r, h1, h2⟩ := index_loop l v hl l.length 0 (l.length + 1) (by omega) (by omega)
  unfold slices_Contains_int_int.f slices_Index_int_int.f
  rw [show (0 : Int) = ((0 : Nat) : Int) from rfl, h1]
  simp only [Option.bind_some]
  rw [show ((0 : Nat) : Int) = 0 from rfl, h2]
  rfl
/-! ### slices.ContainsFunc at a table's threads -/
theorem indexf_loop (l : List S54) (hl : l.length ≤ 100000) : ∀ (d i k : Nat), i + d = l.length → d < k → ∃ r, sched_thread_37.l0 k l (l.length : Int) (i : Int) = some r ∧ decide (r ≥ 0) = (l.drop i).any isWaits
  | d, i, 0, _, hk => absurd hk (by omega)
  | 0, i, k + 1, hd, _ => by
    simp only [sched_thread_37.l0]
    rw [if_neg (by omega), List.drop_eq_nil_of_le (by omega)]
    exact ⟨_, rfl, by simp⟩
  | d + 1, i, k + 1, hd, hk => by
    have hi : i < l.length := by omega
    simp only [sched_thread_37.l0]
    rw [if_pos (by omega), if_pos (by omega), if_pos (by omega), List.drop_eq_getElem_cons hi, wrap_nat i (by omega)]
    have hr : rd_T54 l (i : Int) = l[i] := by simp [rd_T54, List.getD_eq_getElem?_getD, List.getElem?_eq_getElem hi]
    rw [hr]
    unfold sched_Table_Status_1.f
    simp only [Option.bind_some]
    change ∃ r, (if isWaits l[i] = true then _ else _) = some r ∧ _
    by_cases h : isWaits l[i] = true
    · rw [if_pos h]
      exact ⟨_, rfl, by rw [List.any_cons, h]; simp⟩
    · rw [if_neg h]
      obtain ⟨r, h1, h2⟩ := indexf_loop l hl d (i + 1) k (by omega) (by omega)
      exact ⟨r, h1, by rw [h2, List.any_cons, Bool.eq_false_iff.2 h]; simp⟩
theorem containsf_f (l : List S54) (hl : l.length ≤ 100000) : sched_thread_34.f (l.length + 1) l = some (l.any isWaits) := by
  obtain ⟨r, h1, h2⟩ := indexf_loop l hl l.length 0 (l.length + 1) (by omega) (by omega)
  unfold sched_thread_34.f sched_thread_37.f
  rw [show (0 : Int) = ((0 : Nat) : Int) from rfl, h1]
  simp only [Option.bind_some]
  rw [show ((0 : Nat) : Int) = 0 from rfl, h2]
  rfl
/-! ### SameInts -/
theorem same_loop (l : List Int) (hl : l.length ≤ 100000) : ∀ (d i k : Nat), i + d = l.length → d < k → selvageref02_SameInts.l0 k l l (i : Int) = some true
  | d, i, 0, _, hk => absurd hk (by omega)
  | 0, i, k + 1, hd, _ => by
    simp only [selvageref02_SameInts.l0]
    rw [if_neg (by omega)]
  | d + 1, i, k + 1, hd, hk => by
    simp only [selvageref02_SameInts.l0]
    rw [if_pos (by omega), if_pos (by omega), if_pos (by omega), if_pos trivial, wrap_nat i (by omega)]
    exact same_loop l hl d (i + 1) k (by omega) (by omega)
theorem same_f (l : List Int) (hl : l.length ≤ 100000) : selvageref02_SameInts.f (l.length + 1) l l = some true := by
  unfold selvageref02_SameInts.f
  rw [if_pos rfl]
  exact same_loop l hl l.length 0 (l.length + 1) (by omega) (by omega)
/-! ### the closures -/
theorem goesLC_ {P : Program} {ops : Array Oper} {Q : Exit → Act → World → Prop} {rest : List Oper} {oi : Oper} {a : Act} {w : World} (N : Option Tmp) (hd : oi.dst = N) (hg : oi.guard = none) {f : FuncId} {fn : Func} {asx : Array Operand} {ts : Array TypeId} {o : Operand} {caps : Array Value} (hf : P.funcs[f]? = some fn) (hname : (fn.name == "runtime.NumGoroutine") = false) (hb : fn.body.isSome = true) (args : Array Value)
    (hop : oi.op = .call { callee := .value o, args := asx, argTypes := ts }) (ho : a.eval o = .func (.func f) #[] caps) (hargs : asx.map a.eval = args)
    (h : Calls P f (args ++ caps) w fun e w' => ∃ v, e = .returned v ∧ wpList P ops Q rest (a.put N v) w') : wpList P ops Q (oi :: rest) a w := by
  refine wpList_plain hg fun K hK => ?_
  have he := enters_ hf hname hb (args ++ caps) w
  have hrun : (execOp a.eval oi).run P w = .ok (.enter f (args ++ caps)) w := by
    unfold execOp
    simp [hop, resolve, ho, Deferred.ofValue, invoke, hargs, he]
  unfold Oper.wp
  rw [hrun, Oper.upon_enter]
  refine h.mono fun e w'' hh => ?_
  obtain ⟨v, rfl, hk⟩ := hh
  subst hd
  exact hK _ _ hk
set_option maxHeartbeats 1000000 in
/-- Wake's closure. -/
theorem wake1 (x : S54) (v : Int) (A : Option Addr) (c gv : Nat) (w : World) (hl : x.f1.length ≤ 100000) (hc : x.f1.length ≤ c) (hr : Kd.C (Kd.int .i64) w A x.f1.length x.f1) (hv : w.heap[gv]? = some (.cells #[.int .i64 v] 3 (0, 0))) :
    Calls Try.prog 29 #[.agg #[.int .i64 x.f0, .slice A x.f1.length c], .pointer (some ⟨gv, 0, none⟩)] w fun e w' => e = .returned (.bool (waitsFor v x)) ∧ Below w.heap.size w w' := by
  have hu54 := Try.underlying54
  have HR := Aside0.mk hr
  have HF := Aside0.mk (contains_f x.f1 v hl)
  have hcv : w.cell? ⟨gv, 0, none⟩ = some (.int .i64 v) := (blk_cell hv 0).trans rfl
  have hlt := blk_lt hv
  have hcv2 : ∀ o, (w.alloc o).cell? ⟨gv, 0, none⟩ = some (.int .i64 v) := fun o => by rw [World.cell?_alloc_past _ _ _ hlt]; exact hcv
  clear hr
  by_cases h1 : (x.f0 == 1) = true
  · go_enter Try.func29, Try.ntmps29
    go_wp2_with (go_at_call 30; (refine (slices_Contains_int_int.calls (x.f1.length + 1) A c x.f1 v (x.f1.contains v) _ ?s1 hc HF.out).mono ?_); (case s1 => exact Kd.C_alloc HR.out _); rintro e w' ⟨rfl, ⟨nq, rfl⟩⟩)
    go_ret
    refine ⟨by simp [waitsFor, h1], ?_⟩
    exact pw_below_drewN (below_alloc (Below.refl _ _) _) _
  · have h2 : (x.f0 == 1) = false := Bool.eq_false_iff.2 h1
    go_enter Try.func29, Try.ntmps29
    go_wp2
    go_ret
    exact ⟨by simp [waitsFor, h2], below_alloc (Below.refl _ _) _⟩
end Go.Proofs.Ytcndpclnjnbppaa.Q
