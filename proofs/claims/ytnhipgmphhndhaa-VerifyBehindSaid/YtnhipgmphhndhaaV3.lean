import Derived.Test.YtnhipgmphhndhaaV2
import Derived.Deep.RegionLawGrows
import Derived.WalkSpells
import Derived.Outline
namespace Go.Proofs.Ytnhipgmphhndhaa.Q
open Go.RowKit Go.Proofs.YtnhipgmphhndhaaW.PrintWords Go.Proofs.YtnhipgmphhndhaaW.PrintLast Go.Proofs.YtnhipgmphhndhaaW.PrintMore
set_option linter.unusedVariables false
set_option linter.unusedSectionVars false
set_option linter.unusedSimpArgs false
theorem w64 (n : Int) (h0 : -9223372036854775808 ≤ n) (h1 : n ≤ 9223372036854775807) : wrap64 n = n := IntWalk.wrap64_in n ⟨h0, h1⟩
theorem wn (x : Int) (n : Nat) (h : x = (n : Int)) (hb : n ≤ 100000000) : wrap64 x = (n : Int) := by
  rw [w64 x (by omega) (by omega), h]
theorem blk_new2 (w : World) (o1 o2 : Obj) : ((w.alloc o1).alloc o2).heap[w.heap.size + 1]? = some o2 := by
  have h := blk_new (w.alloc o1) o2
  have e : (w.alloc o1).heap.size = w.heap.size + 1 := by simp
  rwa [e] at h
/-! ### the methods of a state -/
set_option maxHeartbeats 2000000 in
theorem v_moved (d n : Int) (A : Option Addr) (k c : Nat) (w : World) : Calls Try.prog 39 #[.agg #[.int .i64 d, .slice A k c], .int .i64 n] w fun e w' => e = .returned (.agg #[.int .i64 (wrap64 (d + n)), .slice A k c]) ∧ Below w.heap.size w w' := by
  have hu52 := Try.underlying52
  go_enter Try.func39, Try.ntmps39
  go_wp2
  refine bodyPost_ret (results_cell_row rfl _ _ (w.heap.size + 1) 52 #[.int .i64 (wrap64 (d + n)), .slice A k c] (0, 0) _ rfl (blk_new2 _ _ _) Try.underlying52 rfl (by kernel_rfl)) rfl ?_
  exact ⟨rfl, below_alloc (below_alloc (Below.refl _ _) _) _⟩
theorem lastIs_nil {m : List S89} (h : m.length = 0) (k : Int) : lastIs m k = false := by
  unfold lastIs
  rw [decide_eq_false (by omega : ¬ 0 < m.length)]
  rfl
set_option maxHeartbeats 4000000 in
set_option maxRecDepth 100000 in
theorem v_without (d kind : Int) (A : Option Addr) (c : Nat) (m : List S89) (w : World) (hC : k89.C w A m.length m) (hc : m.length ≤ c) (hl : m.length ≤ 1000000) :
    Calls Try.prog 43 #[.agg #[.int .i64 d, .slice A m.length c], .int .i64 kind] w fun e w' => e = .returned (.tuple #[.agg #[.int .i64 d, .slice A (if lastIs m kind = true then m.length - 1 else m.length) c], .bool (lastIs m kind)]) ∧ Below w.heap.size w w' := by
  have hu52 := Try.underlying52
  have hu89 := Try.underlying89
  by_cases h0 : m.length = 0
  · rw [lastIs_nil h0, h0]
    clear hC hc hl
    go_enter Try.func43, Try.ntmps43
    go_wp2
    refine bodyPost_ret (results_ct rfl _ _ (w.heap.size + 1) 52 #[.int .i64 d, .slice A 0 c] (0, 0) _ rfl (blk_new2 _ _ _) Try.underlying52 rfl (by kernel_rfl)) rfl ?_
    exact ⟨rfl, below_alloc (below_alloc (Below.refl _ _) _) _⟩
  · obtain ⟨k, hk⟩ : ∃ k, m.length = k + 1 := ⟨m.length - 1, by omega⟩
    have hw : IntKind.i64.wrap ((m.length : Int) - 1) = (k : Int) := by rw [i64_w]; exact wn _ k (by omega) (by omega)
    obtain ⟨ad, e, hx0, hx1⟩ := at_T89 hC (k : Int) (by omega) (by omega)
    cases e
    rw [Int.toNat_natCast] at hx0 hx1
    have hy0 : ∀ o1 o2 : Obj, ((w.alloc o1).alloc o2).cell? (ad.add (k * 2)) = some (.int .i64 (rd_T89 m (k : Int)).f0) := fun o1 o2 => ((below_alloc (below_alloc (Below.refl _ _) _) _).cell (World.block_lt_of_cell? w _ hx0)).trans hx0
    have hlast : lastIs m kind = decide ((rd_T89 m (k : Int)).f0 = kind) := by
      unfold lastIs
      rw [decide_eq_true (by omega : 0 < m.length), show m.length - 1 = k by omega]
      rfl
    have p1 : ((k : Int) < 0) = False := eq_false (by omega)
    have p2 : (0 ≤ (k : Int)) = True := eq_true (by omega)
    have p3 : ((k : Int) < (m.length : Int)) = True := eq_true (by omega)
    have p4 : ((k : Int) ≤ (m.length : Int)) = True := eq_true (by omega)
    have p7 : (k ≤ c) = True := eq_true (by omega)
    have p5 : decide ((k : Int) < 0) = false := decide_eq_false (by omega)
    by_cases h1 : (rd_T89 m (k : Int)).f0 = kind
    · rw [hlast, decide_eq_true h1, if_pos rfl, show m.length - 1 = k by omega]
      have hb : ((rd_T89 m (k : Int)).f0 != kind) = false := bne_eq_false_iff_eq.mpr h1
      have hb' : ((rd_T89 m (k : Int)).f0 == kind) = true := beq_iff_eq.mpr h1
      have HL := Aside0.mk hl
      clear hC hl hc hk h0 hlast h1
      go_enter Try.func43, Try.ntmps43
      go_wp2
      refine bodyPost_ret (results_ct rfl _ _ (w.heap.size + 1) 52 #[.int .i64 d, .slice (some ad) k c] (0, 0) _ rfl (blk_new2 _ _ _) Try.underlying52 rfl (by kernel_rfl)) rfl ?_
      exact ⟨rfl, below_alloc (below_alloc (Below.refl _ _) _) _⟩
    · rw [hlast, decide_eq_false h1, if_neg (by decide)]
      have hb : ((rd_T89 m (k : Int)).f0 != kind) = true := bne_iff_ne.mpr h1
      have hb' : ((rd_T89 m (k : Int)).f0 == kind) = false := beq_eq_false_iff_ne.mpr h1
      have HL := Aside0.mk hl
      clear hC hl hc hk h0 hlast h1
      go_enter Try.func43, Try.ntmps43
      go_wp2
      refine bodyPost_ret (results_ct rfl _ _ (w.heap.size + 1) 52 #[.int .i64 d, .slice (some ad) m.length c] (0, 0) _ rfl (blk_new2 _ _ _) Try.underlying52 rfl (by kernel_rfl)) rfl ?_
      exact ⟨rfl, below_alloc (below_alloc (Below.refl _ _) _) _⟩
/-- 'append' to a row that is full (a cut with a capacity): a row of its own. -/
theorem step_append_full {α : Type} (d : Kd α) {ops : Array Oper} {o : Oper} {a : Act} {W : World} {K : Act → World → Prop} {Q : Exit → Act → World → Prop} {E : Prop} (hgd : o.guard = none) (s x : Operand) (t e : TypeId) (z : Value) (bytes : Nat)
    (ho : o.op = .call { callee := .builtin .append, args := #[s, x], argTypes := #[t, t] })
    (ht : Try.prog.underlying t = some (.slice e)) (hinfo : (Try.prog.info? e).map (fun i => (i.zero, i.size, i.bytes)) = some (some z, d.sz, bytes)) (hz : z.cells.size = d.sz) (hs0 : 0 < d.sz) (hb0 : 0 < bytes)
    (A : Option Addr) (xs ys : List α) (ad : Addr) (m c : Nat) (hs : a.eval s = .slice A xs.length xs.length) (hx : a.eval x = .slice (some ad) m c)
    (HC : d.C W A xs.length xs) (HR : d.C W (some ad) m ys) (hm0 : 0 < m) (hKM : ∀ w x cs, d.K W x cs → d.M w W.heap.size (fun _ => False) x cs) (hl : (xs.length + m) * bytes ≤ 140737488355328)
    (h : ∀ v1 w1, d.R e w1 W.heap.size (fun _ => True) v1 (xs ++ ys) → W.grownBy w1 none → K (a.put o.dst v1) w1) :
    if Region.wanted o (yielded ops a.tmps) = true then Oper.wp Try.prog o a W K Q else E := by
  obtain ⟨i0, hi, hzz⟩ := Option.map_eq_some_iff.1 hinfo
  simp only [Prod.mk.injEq] at hzz
  obtain ⟨hz0, hz1, hz2⟩ := hzz
  have hm : ys.length = m := HR.1
  have hlen : xs.length + m ≤ 140737488355328 := Nat.le_trans (Nat.le_mul_of_pos_right _ hb0) hl
  obtain ⟨olds, hor, hoc⟩ : ∃ olds, Reps (d.K W) d.sz xs olds ∧ ∀ b, A = some b → ∀ j u, olds[j]? = some u → W.cell? (b.add j) = some u := by
    cases A with
    | none =>
      have h0 : xs.length = 0 := by
        rcases Nat.eq_zero_or_pos xs.length with h0 | h0
        · exact h0
        · obtain ⟨_, h1, _⟩ := HC.2.2 h0
          cases h1
      obtain rfl := List.eq_nil_of_length_eq_zero h0
      exact ⟨[], Reps.none _ _, fun b hb => by cases hb⟩
    | some b =>
      obtain ⟨olds, h1, h2⟩ := ReadsRow.inner_ HC
      exact ⟨olds, h1, fun b' hb => by cases hb; exact h2⟩
  obtain ⟨news, hnr, hnc⟩ := ReadsRow.inner_ HR
  have hone : ∀ u ∈ news, u.oneCell' = true := by
    intro u hu
    obtain ⟨q, hq, rfl⟩ := List.mem_iff_getElem.1 hu
    have hql : q / d.sz < ys.length := by
      rw [Nat.div_lt_iff_lt_mul hs0]
      rw [← hnr.1]
      exact hq
    have hc := hnr.2 (q / d.sz) _ (List.getElem?_eq_getElem hql)
    refine d.K_one hc _ ?_
    rw [List.mem_iff_getElem?]
    refine ⟨q % d.sz, ?_⟩
    rw [List.getElem?_take, if_pos (Nat.mod_lt _ hs0), List.getElem?_drop, Nat.mul_comm, Nat.div_add_mod, List.getElem?_eq_getElem hq]
  refine step_append_grows hgd s x t ho e i0 z d.sz bytes ht hi hz0 hz1 hz2 hz hs0 A xs.length xs.length olds hs (fun hn => ?_) hor.1 hoc ad m c news hx (by rw [hnr.1, hm]) hnc hone (by omega) (by simp only [maxLen]; omega) hl (fun v' w' hown hg => h v' w' ⟨fun _ _ => trivial, olds ++ news, by rw [List.length_append, hm]; exact hown, ?_⟩ hg)
  · have h0 : xs.length = 0 := by
      rcases Nat.eq_zero_or_pos xs.length with h0 | h0
      · exact h0
      · obtain ⟨_, h1, _⟩ := HC.2.2 h0
        rw [hn] at h1
        cases h1
    exact ⟨h0, h0⟩
  · exact Kd.reps_append (hor.imp_ (fun _ _ hq => d.M_mono (fun _ hk => hk.elim) (hKM w' _ _ hq))) (hnr.imp_ (fun _ _ hq => d.M_mono (fun _ hk => hk.elim) (hKM w' _ _ hq)))
theorem C89_new (W : World) (a b : Int) (g : Nat) {n : Nat} (h : g = W.heap.size) : Kd.C k89 (W.alloc (.cells #[.int .i64 a, .int .i64 b] n)) (some ⟨g, 0, none⟩) 1 [⟨a, b⟩] := by
  subst h
  refine ⟨rfl, by omega, fun _ => ⟨_, rfl, fun j p hj => ?_⟩⟩
  cases j with
  | zero =>
    obtain rfl : (⟨a, b⟩ : S89) = p := by simpa using hj
    refine ⟨_, rfl, k89_mk _ _, fun i u hu => ?_⟩
    rw [Addr.add_lit, show 0 + (0 * k89.sz + i) = i by omega, blk_cell (blk_new W _) i]
    rw [← hu, Array.getElem?_toList.symm]
  | succ j => simp at hj
def with_T1 : Bool × List (List Nat × List Nat) := (true, [([], []), ([0], [0]), ([], []), ([2], [2]), ([3], [3]), ([], []), ([5], [5]), ([6], [6]), ([1, 4, 7], [1, 4, 7]), ([], []), ([], []), ([10], [10]), ([9, 11], [9, 11]), ([12], [12]), ([8, 13], [8, 13]), ([0, 1, 2, 3, 4, 5, 6, 7, 8, 9, 10, 11, 12, 13, 14], []), ([15, 14, 14, 0, 1, 2, 3, 4, 5, 6, 7, 8, 9, 10, 11, 12, 13, 14], [14, 15])])
def with_B1 : List Nat := [0, 1, 0, 4, 12, 0, 32, 96, 255, 0, 0, 1024, 3584, 7680, 16383, 32767, 65535]
theorem with_tab1 : rtab .any (opsOf Try.f40 1) = with_T1 := by kernel_rfl
theorem with_bits1 : waitsOk with_T1.2 with_B1 = true := by kernel_rfl
set_option maxHeartbeats 1000000 in
set_option maxRecDepth 100000 in
theorem v_with (d kind : Int) (A : Option Addr) (c : Nat) (m : List S89) (w : World) (hC : k89.C w A m.length m) (hc : m.length ≤ c) (hl : m.length ≤ 1000000) :
    Calls Try.prog 40 #[.agg #[.int .i64 d, .slice A m.length c], .int .i64 kind] w fun e w' => ∃ v, e = .returned (.agg #[.int .i64 d, v]) ∧ Kd.R k89 89 w' w.heap.size (fun _ => True) v (m ++ [⟨kind, d⟩]) ∧ Below w.heap.size w w' := by
  have hu52 := Try.underlying52
  have hu89 := Try.underlying89
  have hu50 := Try.underlying50
  have HL := Aside0.mk hl
  have HC := Aside0.mk hC
  have HB := Aside0.mk (Below.refl w.heap.size w)
  have p4 : ((m.length : Int) ≤ (c : Int)) = True := eq_true (by omega)
  have p5 : ((0 : Int) ≤ (m.length : Int)) = True := eq_true (by omega)
  have p6 : ((m.length : Int) ≤ (m.length : Int)) = True := eq_true (by omega)
  clear hC hl
  go_enter Try.func40, Try.ntmps40
  go_wp2_with (first
    | ((with_reducible refine gate_dst (N := 2) rfl ?_); refine box_event ?hg (N := 2) ?hd (cs := #[.int .i64 d, .slice A m.length c]) (t := 52) ?hr ?_; (case hd => rfl); (case hg => rfl); (case hr => first | (go_simp; done) | (go_simp; rfl)); intro gA hgA w7 hbox hb; have BA := Aside0.mk hbox; have GA := Aside0.mk (Nat.le_of_eq hgA.symm : w.heap.size ≤ gA); have n0_ := Aside0.mk (below_step HB.out hb); have n1_ := Aside0.mk (Kd.C_below HC.out hb); clear HB HC; have HB := n0_; have HC := n1_; clear n0_ n1_ hbox hb hgA)
    | ((with_reducible refine gate_dst (N := 4) rfl ?_); refine box_event ?hg (N := 4) ?hd (cs := #[.int .i64 0, .slice none 0 0]) (t := 52) ?hr ?_; (case hd => rfl); (case hg => rfl); (case hr => first | (go_simp; done) | (go_simp; rfl)); intro gB hgB w8 hbox hb; have BB := Aside0.mk hbox; have GB := Aside0.mk (Nat.le_trans HB.out.size (Nat.le_of_eq hgB.symm) : w.heap.size ≤ gB); have NAB := Aside0.mk (by rw [hgB]; exact Nat.ne_of_lt (blk_lt BA.out) : gA ≠ gB); have n0_ := Aside0.mk (below_step HB.out hb); have n1_ := Aside0.mk (Kd.C_below HC.out hb); have n2_ := Aside0.mk (blk_below BA.out hb); clear HB HC BA; have HB := n0_; have HC := n1_; have BA := n2_; clear n0_ n1_ n2_ hbox hb hgB))
  have n0_ := Aside0.mk (Kd.C_drew HC.out)
  have n1_ := Aside0.mk (blk_drew BA.out)
  have n2_ := Aside0.mk (blk_drew BB.out)
  have n4_ := Aside0.mk (below_drew1 HB.out)
  clear HC BA BB HB
  have HC := n0_
  have BA := n1_
  have BB := n2_
  have HB := n4_
  clear n0_ n1_ n2_ n4_
  refine start_ (n := 17) (S := fun w' => w'.cell? ⟨gA, 0, none⟩ = some (.int .i64 d) ∧ w'.cell? ⟨gA, 1, none⟩ = some (.slice A m.length c)) (ds := [16]) #[false, false, false, false, false, false, false, false, false, false, false, false, false, false, false, false, false] (by kernel_rfl) rfl rfl ⟨(blk_cell BA.out 0).trans rfl, (blk_cell BA.out 1).trans rfl⟩ (fun hHeld => ?_); refine with_tabW with_tab1 with_bits1 (fun HT_ HW_ => ?_)
  generalize w8.drew = w9 at HC BA BB HB hHeld ⊢
  refine pure_ (i := 0) (N := some 5) (v := ?_) (a' := ?_) #[true, false, false, false, false, false, false, false, false, false, false, false, false, false, false, false, false] rfl rfl (any_of HT_.out (by kernel_rfl)) (fun _ _ _ h => h) (Or.inl ⟨by rfl, ?_⟩) ?_ ?_
  rotate_left
  · intro w'
    go_simp
    with_reducible rfl
  rotate_left
  · simp only [Act.put, List.setIfInBounds_toArray, List.set_cons_zero, List.set_cons_succ, i64_w, i32_w]
    rfl
  refine pure_ (i := 2) (N := some 7) (v := ?_) (a' := ?_) #[true, false, true, false, false, false, false, false, false, false, false, false, false, false, false, false, false] rfl rfl (any_of HT_.out (by kernel_rfl)) (fun _ _ _ h => h) (Or.inl ⟨by rfl, ?_⟩) ?_ ?_
  rotate_left
  · intro w'
    go_simp
    with_reducible rfl
  rotate_left
  · simp only [Act.put, List.setIfInBounds_toArray, List.set_cons_zero, List.set_cons_succ, i64_w, i32_w]
    rfl
  refine pure_ (i := 5) (N := some 10) (v := ?_) (a' := ?_) #[true, false, true, false, false, true, false, false, false, false, false, false, false, false, false, false, false] rfl rfl (any_of HT_.out (by kernel_rfl)) (fun _ _ _ h => h) (Or.inl ⟨by rfl, ?_⟩) ?_ ?_
  rotate_left
  · intro w'
    go_simp
    with_reducible rfl
  rotate_left
  · simp only [Act.put, List.setIfInBounds_toArray, List.set_cons_zero, List.set_cons_succ, i64_w, i32_w]
    rfl
  refine pure_ (i := 9) (N := some 14) (v := ?_) (a' := ?_) #[true, false, true, false, false, true, false, false, false, true, false, false, false, false, false, false, false] rfl rfl (any_of HT_.out (by kernel_rfl)) (fun _ _ _ h => h) (Or.inl ⟨by rfl, ?_⟩) ?_ ?_
  rotate_left
  · intro w'
    go_simp
    with_reducible rfl
  rotate_left
  · simp only [Act.put, List.setIfInBounds_toArray, List.set_cons_zero, List.set_cons_succ, i64_w, i32_w]
    rfl
  refine pure_ (i := 10) (N := some 15) (v := ?_) (a' := ?_) #[true, false, true, false, false, true, false, false, false, true, true, false, false, false, false, false, false] rfl rfl (any_of HT_.out (by kernel_rfl)) (fun _ _ _ h => h) (Or.inl ⟨by rfl, ?_⟩) ?_ ?_
  rotate_left
  · intro w'
    go_simp
    with_reducible rfl
  rotate_left
  · simp only [Act.put, List.setIfInBounds_toArray, List.set_cons_zero, List.set_cons_succ, i64_w, i32_w]
    rfl
  refine take_ (i := 1) (N := some 6) (v := ?_) (a' := ?_) #[true, true, true, false, false, true, false, false, false, true, true, false, false, false, false, false, false] rfl rfl (take_ofW HT_.out HW_.out (by kernel_rfl)) (fun _ _ _ h => h) (Or.inl ⟨by rfl, ?_⟩) hHeld ?_ ?_
  rotate_left
  · rintro w' ⟨s0, s1⟩
    go_simp
    with_reducible rfl
  rotate_left
  · simp only [Act.put, List.setIfInBounds_toArray, List.set_cons_zero, List.set_cons_succ, i64_w, i32_w]
    rfl
  refine take_ (i := 3) (N := some 8) (v := ?_) (a' := ?_) #[true, true, true, true, false, true, false, false, false, true, true, false, false, false, false, false, false] rfl rfl (take_ofW HT_.out HW_.out (by kernel_rfl)) (fun _ _ _ h => h) (Or.inl ⟨by rfl, ?_⟩) hHeld ?_ ?_
  rotate_left
  · rintro w' ⟨s0, s1⟩
    go_simp
    with_reducible rfl
  rotate_left
  · simp only [Act.put, List.setIfInBounds_toArray, List.set_cons_zero, List.set_cons_succ, i64_w, i32_w]
    rfl
  refine pure_ (i := 4) (N := some 9) (v := ?_) (a' := ?_) #[true, true, true, true, true, true, false, false, false, true, true, false, false, false, false, false, false] rfl rfl (any_of HT_.out (by kernel_rfl)) (fun _ _ _ h => h) (Or.inl ⟨by rfl, ?_⟩) ?_ ?_
  rotate_left
  · intro w'
    go_simp
    with_reducible rfl
  rotate_left
  · simp only [Act.put, List.setIfInBounds_toArray, List.set_cons_zero, List.set_cons_succ, i64_w, i32_w]
    rfl
  refine take_ (i := 6) (N := some 11) (v := ?_) (a' := ?_) #[true, true, true, true, true, true, true, false, false, true, true, false, false, false, false, false, false] rfl rfl (take_ofW HT_.out HW_.out (by kernel_rfl)) (fun _ _ _ h => h) (Or.inl ⟨by rfl, ?_⟩) hHeld ?_ ?_
  rotate_left
  · rintro w' ⟨s0, s1⟩
    go_simp
    with_reducible rfl
  rotate_left
  · simp only [Act.put, List.setIfInBounds_toArray, List.set_cons_zero, List.set_cons_succ, i64_w, i32_w]
    rfl
  refine pure_ (i := 7) (N := some 12) (v := ?_) (a' := ?_) #[true, true, true, true, true, true, true, true, false, true, true, false, false, false, false, false, false] rfl rfl (any_of HT_.out (by kernel_rfl)) (fun _ _ _ h => h) (Or.inl ⟨by rfl, ?_⟩) ?_ ?_
  rotate_left
  · intro w'
    go_simp
    with_reducible rfl
  rotate_left
  · simp only [Act.put, List.setIfInBounds_toArray, List.set_cons_zero, List.set_cons_succ, i64_w, i32_w]
    rfl
  refine pure_ (i := 8) (N := some 13) (v := ?_) (a' := ?_) #[true, true, true, true, true, true, true, true, true, true, true, false, false, false, false, false, false] rfl rfl (any_of HT_.out (by kernel_rfl)) (fun _ _ _ h => h) (Or.inl ⟨by rfl, ?_⟩) ?_ ?_
  rotate_left
  · intro w'
    go_simp
    with_reducible rfl
  rotate_left
  · simp only [Act.put, List.setIfInBounds_toArray, List.set_cons_zero, List.set_cons_succ, i64_w, i32_w]
    rfl
  refine take_ (i := 11) (N := some 16) (v := ?_) (a' := ?_) #[true, true, true, true, true, true, true, true, true, true, true, true, false, false, false, false, false] rfl rfl (take_ofW HT_.out HW_.out (by kernel_rfl)) (fun _ _ _ h => h) (Or.inl ⟨by rfl, ?_⟩) hHeld ?_ ?_
  rotate_left
  · rintro w' ⟨s0, s1⟩
    go_simp
    with_reducible rfl
  rotate_left
  · simp only [Act.put, List.setIfInBounds_toArray, List.set_cons_zero, List.set_cons_succ, i64_w, i32_w]
    rfl
  refine pure_ (i := 12) (N := some 17) (v := ?_) (a' := ?_) #[true, true, true, true, true, true, true, true, true, true, true, true, true, false, false, false, false] rfl rfl (any_of HT_.out (by kernel_rfl)) (fun _ _ _ h => h) (Or.inl ⟨by rfl, ?_⟩) ?_ ?_
  rotate_left
  · intro w'
    go_simp
    with_reducible rfl
  rotate_left
  · simp only [Act.put, List.setIfInBounds_toArray, List.set_cons_zero, List.set_cons_succ, i64_w, i32_w]
    rfl
  refine one_ (i := 13) (N := some 18) #[true, true, true, true, true, true, true, true, true, true, true, true, true, true, false, false, false] rfl rfl (one_of HT_.out (by kernel_rfl)) (by decide) (fun K hK => ?_)
  refine value_ (w1 := ?_) (v := ?_) (by rfl) rfl ?_ ?_
  rotate_left 2
  · go_simp
    constructor
    · rfl
    · rfl
  refine hK.out _ _ ⟨(blk_cell (blk_alloc BA.out _) 0).trans rfl, (blk_cell (blk_alloc BA.out _) 1).trans rfl⟩ (fun hHeld => ?_)
  clear hK K
  refine norm_ (a' := ?_) ?_ ?_
  rotate_left
  · show Act.put _ (some 18) _ = _
    simp only [Act.put, List.setIfInBounds_toArray, List.set_cons_zero, List.set_cons_succ, i64_w, i32_w]
    rfl
  refine one_ (i := 14) (N := some 19) #[true, true, true, true, true, true, true, true, true, true, true, true, true, true, true, false, false] rfl rfl (one_of HT_.out (by kernel_rfl)) (by decide) (fun K hK => ?_)
  refine step_append_full k89 (by rfl) (.tmp 13) (.tmp 18) 50 89 (.agg #[.int .i64 0, .int .i64 0]) 16 rfl Try.underlying50 info89 rfl (by decide) (by omega) A m [⟨kind, d⟩] ⟨w9.heap.size, 0, none⟩ 1 1 rfl rfl (Kd.C_alloc HC.out _) (C89_new _ _ _ _ rfl) (by omega) (fun w x cs h => by obtain rfl := k89_open h; exact k89_mkM _ _ _ x) (by have := HL.out; omega) ?_
  intro v1 w1 ho hg
  have ho2 := Kd.R_lower (Kd.R_bound ho) (base' := w.heap.size) (Nat.le_trans HB.out.size (by simp))
  have BA1 := Aside0.mk (blk_grown (blk_alloc BA.out _) hg (by simp))
  have BB1 := Aside0.mk (blk_grown (blk_alloc BB.out _) hg (by simp))
  have HB1 := Aside0.mk ((below_alloc HB.out _).grown hg (Nat.le_trans HB.out.size (by simp)) (fun k hk => by cases hk))
  have hlt1 := blk_lt BA.out
  have hlt2 := blk_lt BB.out
  have ho3 : Kd.R k89 89 w1 w.heap.size (fun k => k ≠ gA ∧ k ≠ gB) v1 (m ++ [⟨kind, d⟩]) := Kd.R_mono ho2 (fun k hk => by have h1 := hk.2.1; simp at h1; constructor <;> omega)
  obtain ⟨A1, c1, rfl, hc1, hC1⟩ := Kd.R_reads ho3
  rw [show (m ++ [(⟨kind, d⟩ : S89)]).length = m.length + 1 from by simp] at ho3
  have HR := Aside0.mk ho3
  clear BA BB HB HC ho ho2 ho3 hg hc1 hC1 hlt1 hlt2
  refine hK.out _ _ ⟨(blk_cell BA1.out 0).trans rfl, (blk_cell BA1.out 1).trans rfl⟩ (fun hHeld => ?_)
  clear hK K
  refine norm_ (a' := ?_) ?_ ?_
  rotate_left
  · show Act.put _ (some 19) _ = _
    simp only [Act.put, List.setIfInBounds_toArray, List.set_cons_zero, List.set_cons_succ, i64_w, i32_w]
    rfl
  refine pure_ (i := 15) (N := some 20) (v := ?_) (a' := ?_) #[true, true, true, true, true, true, true, true, true, true, true, true, true, true, true, true, false] rfl rfl (any_of HT_.out (by kernel_rfl)) (fun _ _ _ h => h) (Or.inl ⟨by rfl, ?_⟩) ?_ ?_
  rotate_left
  · intro w'
    go_simp
    with_reducible rfl
  rotate_left
  · simp only [Act.put, List.setIfInBounds_toArray, List.set_cons_zero, List.set_cons_succ, i64_w, i32_w]
    rfl
  refine last_ (i := 16) (N := none) #[true, true, true, true, true, true, true, true, true, true, true, true, true, true, true, true, true] rfl rfl (one_of HT_.out (by kernel_rfl)) (by decide) (fun K hK => ?_)
  have hs1 : w1.cell? ⟨gA, 1, none⟩ = some (.slice A m.length c) := (blk_cell BA1.out 1).trans rfl
  have hfs1 := blk_frozen BA1.out 1
  have hns1 := NAB.out
  have hns2 := NAB.out.symm
  refine skip_ (w1 := ?_) (by rfl) rfl ?_ ?_
  rotate_left
  · go_simp
    rfl
  refine hK.out _ _ ?_
  clear hK K
  refine done_ (done_of HT_.out (by kernel_rfl)) ?_
  have hc0 : w1.cell? ⟨gA, 0, none⟩ = some (.int .i64 d) := (blk_cell BA1.out 0).trans rfl
  have hf0 := blk_frozen BA1.out 0
  have hd0 : w1.cell? ⟨gB, 0, none⟩ = some (.int .i64 0) := (blk_cell BB1.out 0).trans rfl
  have hd1 : w1.cell? ⟨gB, 1, none⟩ = some (.slice none 0 0) := (blk_cell BB1.out 1).trans rfl
  have he0 := blk_frozen BB1.out 0
  have he1 := blk_frozen BB1.out 1
  go_wp2
  refine bodyPost_ret (results_cell_row rfl _ _ gB 52 #[.int .i64 d, .slice A1 (m.length + 1) c1] (0, 0) _ rfl (by refine blk_put (cs := #[.int .i64 d, .slice none 0 0]) ?_ 1 _ rfl; refine blk_put (cs := #[.int .i64 0, .slice none 0 0]) ?_ 0 _ rfl; refine blk_far ?_ NAB.out.symm _; exact BB1.out) Try.underlying52 rfl (by kernel_rfl)) rfl ?_
  refine ⟨_, rfl, ?_, below_set (below_set (below_set HB1.out GA.out) GB.out) GB.out⟩
  exact Kd.R_mono (Kd.R_far (p := ⟨gB, 1, none⟩) (Kd.R_far (p := ⟨gB, 0, none⟩) (Kd.R_far (p := ⟨gA, 1, none⟩) HR.out (fun _ hk => hk.1) _) (fun _ hk => hk.2) _) (fun _ hk => hk.2) _) (fun _ _ => trivial)
end Go.Proofs.Ytnhipgmphhndhaa.Q
