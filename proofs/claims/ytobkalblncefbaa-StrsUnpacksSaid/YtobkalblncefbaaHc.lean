import Derived.Test.YtobkalblncefbaaHb
import Derived.Test.YtobkalblncefbaaQx7
import Derived.Deep.RegionLaw
import Derived.BigQuiet
import Derived.Lib.Hide
namespace Go.Proofs.Ytobkalblncefbaa.Q
open Go.RowKit Go.Proofs.YtobkalblncefbaaW.PrintWords Go.Proofs.YtobkalblncefbaaW.PrintLast Go.Proofs.YtobkalblncefbaaW.PrintMore
attribute [local go_sem] digs
attribute [local go_sem] max2_int min2_int max_two min_two max_three min_three max_four min_four
set_option linter.unusedVariables false
set_option linter.unusedSimpArgs false

def pln (c : Int) : Bool := decide (32 ≤ c ∧ c ≤ 126 ∧ c ≠ 34 ∧ c ≠ 92)
def q1 (c : Int) : List Int := if pln c then [c] else if c = 10 then [92, 110] else if c = 34 ∨ c = 92 then [92, c] else [92, 120, digl.getD (c / 16).toNat 0, digl.getD (c % 16).toNat 0]
def qs (a0 : ByteArray) (n : Nat) : List Int := 34 :: ((bytesOf a0).take n).flatMap q1
def strs_Quote.f (a0 : ByteArray) : Option (ByteArray) := if a0.size ≤ 1000 then some (strOfNums (qs a0 a0.size ++ [34])) else none

theorem plain_f (c : Int) : strs_plain.f c = some (pln c) := by
  unfold strs_plain.f pln
  by_cases h1 : c ≥ 32 <;> by_cases h2 : c ≤ 126 <;> by_cases h3 : c = 34 <;> by_cases h4 : c = 92 <;> simp [h1, h2, h3, h4] <;> (try omega) <;> (rintro _; try omega)

theorem q1_len (c : Int) : (q1 c).length ≤ 4 := by unfold q1; repeat' split
                                                   all_goals simp

theorem bytesOf_get (a0 : ByteArray) (k : Nat) (h : k < a0.size) : (bytesOf a0)[k]? = some (bt a0 k) := by
  have hd : a0.data.size = a0.size := rfl
  unfold bytesOf bt
  rw [List.getElem?_map, Array.getElem?_toList, Array.getElem?_eq_getElem (by omega), dif_pos (by simpa using h)]
  rfl

theorem qs_succ (a0 : ByteArray) (k : Nat) (h : k < a0.size) : qs a0 (k + 1) = qs a0 k ++ q1 (bt a0 k) := by
  unfold qs
  rw [List.take_add_one, bytesOf_get a0 k h]
  simp

theorem qs_len (a0 : ByteArray) (k : Nat) (h : k ≤ a0.size) : (qs a0 k).length ≤ 4 * k + 1 := by
  induction k with
  | zero => simp [qs]
  | succ k ih =>
    rw [qs_succ a0 k (by omega), List.length_append]
    have := q1_len (bt a0 k)
    have := ih (by omega)
    omega

theorem heap_old {W : World} {b : Nat} {o : Obj} (h : W.heap[b]? = some o) (o' : Obj) : (W.alloc o').heap[b]? = some o :=
  ((MapKept.heap_alloc W o').2 b (Array.getElem?_eq_some_iff.1 h).1).trans h

theorem and15 : ∀ c : Fin 256, Go.bits .and .u8 (c.val : Int) 15 = (c.val : Int) % 16 := by decide +kernel
theorem and_15 (c : Int) (h0 : 0 ≤ c) (h1 : c ≤ 255) : Go.bits .and .u8 c 15 = c % 16 := by
  have h := and15 ⟨c.toNat, by omega⟩
  have e : ((c.toNat : Nat) : Int) = c := by omega
  simpa [e] using h
theorem digs_cell {W : World} {b : Nat} (hb : W.heap[b]? = some (.cells digs 38 (0, 0))) (j : Nat) (hj : j < 16) : W.cell? ⟨b, j, none⟩ = some (.int .u8 (digl.getD j 0)) := by
  obtain ⟨ad, e, hc⟩ := (Kd.reads_of_C (d := (0 : Int)) (digs_reads W b hb)).2.2 (by decide)
  cases e
  have h := hc j hj
  rwa [add_plain] at h

theorem app_lit {ops : Array Oper} {rest : List Oper} {o : Oper} {a : Act} {Q : Exit → Act → World → Prop} (hgd : o.guard = none) (s x : Operand)
    (ho : o.op = .call { callee := .builtin .append, args := #[s, x], argTypes := #[40, 40] }) (B : Nat) (v : Value) (xs l : List Int) (W : World) (hs : a.eval s = v) (hown : W.ownsRow B 5 1 v xs.length (nums .u8 xs))
    (cs : Array Value) (hcs : cs = (nums .u8 l).toArray) (hx : a.eval x = .slice (some ⟨W.heap.size, 0, none⟩) l.length l.length) (hlen : xs.length + l.length ≤ 100000) (hB : B ≤ W.heap.size)
    (h : ∀ v' w', w'.ownsRow B 5 1 v' (xs ++ l).length (nums .u8 (xs ++ l)) → (W.alloc (.cells cs 5)).grownBy w' v.ownBlock → wpList Try.prog ops Q rest (a.put o.dst v') w') :
    wpList Try.prog ops Q (o :: rest) a (W.alloc (.cells cs 5)) := by
  obtain ⟨i0, hi, hz0, hz1, hz2⟩ := info_parts info5
  refine wpList_append_own _ hgd s x 40 ho B 5 i0 (.int .u8 0) 1 1 Try.underlying40 hi hz0 hz1 hz2 rfl (by decide) v xs.length (nums .u8 xs) hs (hown.alloc _) ⟨W.heap.size, 0, none⟩ l.length l.length (nums .u8 l) hx (by simp [nums]) ?_ ?_ (by unfold maxLen; omega) (by omega) (by have := (Below.alloc (Below.refl W.heap.size W) (Nat.le_refl _) (.cells cs 5)).size; omega) ?_
  · intro j u hj
    have hb := (MapKept.heap_alloc W (.cells cs 5)).1
    rw [add_plain, blk_cell hb j, hcs]
    simpa using hj
  · intro u hu
    simp [nums] at hu
    obtain ⟨y, _, rfl⟩ := hu
    rfl
  · intro v' w' h1 h2 _
    refine h v' w' ?_ h2
    rw [nums_append, List.length_append]
    exact h1

theorem app_step {ops : Array Oper} {o : Oper} {a : Act} {Q : Exit → Act → World → Prop} {K : Act → World → Prop} {E : Prop} (hgd : o.guard = none) (s x : Operand)
    (ho : o.op = .call { callee := .builtin .append, args := #[s, x], argTypes := #[40, 40] }) (B : Nat) (v : Value) (xs l : List Int) (W : World) (hs : a.eval s = v) (hown : W.ownsRow B 5 1 v xs.length (nums .u8 xs))
    (cs : Array Value) (hcs : cs = (nums .u8 l).toArray) (hx : a.eval x = .slice (some ⟨W.heap.size, 0, none⟩) l.length l.length) (hlen : xs.length + l.length ≤ 100000) (hB : B ≤ W.heap.size)
    (h : ∀ v' w', w'.ownsRow B 5 1 v' (xs ++ l).length (nums .u8 (xs ++ l)) → (W.alloc (.cells cs 5)).grownBy w' v.ownBlock → K (a.put o.dst v') w') :
    if Region.wanted o (yielded ops a.tmps) = true then Oper.wp Try.prog o a (W.alloc (.cells cs 5)) K Q else E := by
  rw [if_pos (by simp [Region.wanted, hgd])]
  obtain ⟨i0, hi, hz0, hz1, hz2⟩ := info_parts info5
  refine wp_append_own _ s x 40 ho B 5 i0 (.int .u8 0) 1 1 Try.underlying40 hi hz0 hz1 hz2 rfl (by decide) v xs.length (nums .u8 xs) hs (hown.alloc _) ⟨W.heap.size, 0, none⟩ l.length l.length (nums .u8 l) hx (by simp [nums]) ?_ ?_ (by unfold maxLen; omega) (by omega) (by have := (Below.alloc (Below.refl W.heap.size W) (Nat.le_refl _) (.cells cs 5)).size; omega) ?_
  · intro j u hj
    have hb := (MapKept.heap_alloc W (.cells cs 5)).1
    rw [add_plain, blk_cell hb j, hcs]
    simpa using hj
  · intro u hu
    simp [nums] at hu
    obtain ⟨y, _, rfl⟩ := hu
    rfl
  · intro v' w' h1 h2 _
    refine h v' w' ?_ h2
    rw [nums_append, List.length_append]
    exact h1

theorem q_rel {a0 : ByteArray} {k : Nat} {w W2 w1 : World} {v v1 : Value} {n : Nat} {xs : List Value} {l : List Int} (hk : k < a0.size) (hown : W2.ownsRow (w.heap.size + 1 + 1) 5 1 v n xs)
    (hown1 : w1.ownsRow (w.heap.size + 1 + 1) 5 1 v1 (qs a0 k ++ l).length (nums .u8 (qs a0 k ++ l))) (hl : q1 (bt a0 k) = l) (o : Obj) (hg : (W2.alloc o).grownBy w1 v.ownBlock)
    (HW : W2.heap[w.heap.size + 1]? = some (.cells digs 38 (0, 0))) (HB : Below w.heap.size w W2) :
    Aside0 (w1.ownsRow (w.heap.size + 1 + 1) 5 1 v1 (qs a0 (k + 1)).length (nums .u8 (qs a0 (k + 1)))) ∧ Aside0 (w1.heap[w.heap.size + 1]? = some (.cells digs 38 (0, 0))) ∧ Aside0 (Below w.heap.size w w1) := by
  have HB2 := HB.alloc HB.size o
  have HW2 := heap_old HW o
  refine ⟨⟨?_⟩, ⟨?_⟩, ⟨HB2.grown hg HB2.size (fun j hj => by have := own_base hown j hj; omega)⟩⟩
  · rw [qs_succ a0 k hk, hl]
    exact hown1
  · refine (hg.block _ (Array.getElem?_eq_some_iff.1 HW2).1 ?_).trans HW2
    intro e
    have := own_base hown _ e.symm
    omega

set_option maxHeartbeats 1000000 in
theorem strs_Quote.calls (a0 : ByteArray) (r : ByteArray) (w : World) (h : strs_Quote.f a0 = some r) :
    Calls Try.prog 17 #[.string a0] w fun e w' => e = .returned (.string r) ∧ Below w.heap.size w w' := by
  unfold strs_Quote.f at h
  by_cases hsz : a0.size ≤ 1000
  case neg => rw [if_neg hsz] at h; cases h
  rw [if_pos hsz] at h
  obtain rfl := Option.some.inj h
  clear h
  obtain ⟨i0, hi, hz0, hz1, hz2⟩ := info_parts info5
  go_enter Try.func17, Try.ntmps17
  go_wp2_with (go_at_call 25; refine (strs_sixteen.calls _).mono ?_; rintro e w' ⟨rfl, rfl⟩)
  go_loopw [4, 11] (fun v i wr => ∃ k : Nat, k ≤ a0.size ∧ i = .int .i64 k ∧ Aside0 (wr.ownsRow (w.heap.size + 1 + 1) 5 1 v (qs a0 k).length (nums .u8 (qs a0 k))) ∧ Aside0 (wr.heap[w.heap.size + 1]? = some (.cells digs 38 (0, 0))) ∧ Below w.heap.size w wr) (fun _ i _ => a0.size - (intOf i).toNat)
  case atStart =>
    refine ⟨0, Nat.zero_le _, rfl, ⟨?_⟩, ⟨?_⟩, by repeat (first | exact Below.refl _ _ | apply Below.drew | refine Below.alloc ?_ (by simp; try omega) _)⟩
    · have h := own_lit ((w.alloc (.cells digs 38)).alloc (.cells digs 38)) (w.heap.size + 1 + 1) 5 .u8 [34] (by simp) (by simp)
      exact (show (((w.alloc (.cells digs 38)).alloc (.cells digs 38)).alloc (.cells #[.int .u8 34] 5)).ownsRow (w.heap.size + 1 + 1) 5 1 (.slice (some ⟨w.heap.size + 1 + 1, 0, none⟩) 1 1) 1 [.int .u8 34] by simpa [nums] using h)
    · have h := (MapKept.heap_alloc (w.alloc (.cells digs 38)) (.cells digs 38)).1
      exact heap_old (show ((w.alloc (.cells digs 38)).alloc (.cells digs 38)).heap[w.heap.size + 1]? = _ by simpa using h) _
  case round =>
    obtain ⟨k, hk, rfl, HO, HW, HB⟩ := hrel
    by_cases hlt : k < a0.size
    · have hx : ∀ h : k < a0.size, ((a0[k]'h).toNat : Int) = bt a0 k := fun h => by simpa using bt_at a0 k (by simpa using h)
      have hr := bt_range a0 k
      have hql := qs_len a0 k hk
      have hsB := (show w.heap.size + 1 + 1 ≤ wr.heap.size from by have := (Array.getElem?_eq_some_iff.1 HW.out).1; omega)
      generalize hc : bt a0 k = c at hx hr
      have HC := Aside0.mk hc
      clear hc
      have HPF := Aside0.mk (plain_f c)
      by_cases hp : pln c = true
      · rw [hp] at HPF
        have hq : q1 c = [c] := by unfold q1; rw [if_pos hp]
        have HQ := Aside0.mk hq
        clear hq hp
        go_wp2_with (first
          | (go_at_call 26; refine (strs_plain.calls c true _ HPF.out).mono ?_; rintro e w' ⟨rfl, ⟨nq, rfl⟩⟩)
          | (at_builtin; refine app_lit rfl _ _ rfl (w.heap.size + 1 + 1) u4 (qs a0 k) [c] _ rfl (by exact HO.out) _ rfl rfl (by simp; omega) (by simp; omega) ?_; intro v1 w1 hown1 hg1; have R := q_rel (w := w) (W2 := wr.drewN nq) hlt (by exact HO.out) hown1 (by rw [HC.out]; exact HQ.out) _ (by exact hg1) (by exact HW.out) (pw_below_drewN HB _); clear hown1 hg1))
        go_roundw
        case rel => exact ⟨k + 1, by omega, by go_num, R.1, R.2.1, R.2.2.out⟩
        case measure => simp [intOf]; omega
      · have hp' : pln c = false := by simpa using hp
        rw [hp'] at HPF
        by_cases h10 : c = 10
        · have hq : q1 c = [92, 110] := by unfold q1; rw [if_neg hp, if_pos h10]
          have HQ := Aside0.mk hq
          have hb : (c == 10) = true := beq_iff_eq.mpr h10
          clear hq hp hp' h10
          go_wp2_with (first
            | (go_at_call 26; refine (strs_plain.calls c false _ HPF.out).mono ?_; rintro e w' ⟨rfl, ⟨nq, rfl⟩⟩)
            | (at_builtin; refine app_lit rfl _ _ rfl (w.heap.size + 1 + 1) u4 (qs a0 k) [92, 110] _ rfl (by exact HO.out) _ rfl rfl (by simp; omega) (by simp; omega) ?_; intro v1 w1 hown1 hg1; have R := q_rel (w := w) (W2 := wr.drewN nq) hlt (by exact HO.out) hown1 (by rw [HC.out]; exact HQ.out) _ (by exact hg1) (by exact HW.out) (pw_below_drewN HB _); clear hown1 hg1))
          go_roundw
          case rel => exact ⟨k + 1, by omega, by go_num, R.1, R.2.1, R.2.2.out⟩
          case measure => simp [intOf]; omega
        · have hb : (c == 10) = false := beq_eq_false_iff_ne.mpr h10
          by_cases h34 : c = 34
          · have hq : q1 c = [92, c] := by unfold q1; rw [if_neg hp, if_neg h10, if_pos (.inl h34)]
            have HQ := Aside0.mk hq
            have hb2 : (c == 34) = true := beq_iff_eq.mpr h34
            clear hq hp hp' h10 h34
            go_wp2_with (first
              | (go_at_call 26; refine (strs_plain.calls c false _ HPF.out).mono ?_; rintro e w' ⟨rfl, ⟨nq, rfl⟩⟩)
              | (at_builtin; refine app_lit rfl _ _ rfl (w.heap.size + 1 + 1) u4 (qs a0 k) [92, c] _ rfl (by exact HO.out) _ rfl rfl (by simp; omega) (by simp; omega) ?_; intro v1 w1 hown1 hg1; have R := q_rel (w := w) (W2 := wr.drewN nq) hlt (by exact HO.out) hown1 (by rw [HC.out]; exact HQ.out) _ (by exact hg1) (by exact HW.out) (pw_below_drewN HB _); clear hown1 hg1))
            go_roundw
            case rel => exact ⟨k + 1, by omega, by go_num, R.1, R.2.1, R.2.2.out⟩
            case measure => simp [intOf]; omega
          · have hb2 : (c == 34) = false := beq_eq_false_iff_ne.mpr h34
            by_cases h92 : c = 92
            · have hq : q1 c = [92, c] := by unfold q1; rw [if_neg hp, if_neg h10, if_pos (.inr h92)]
              have HQ := Aside0.mk hq
              have hb3 : (c == 92) = true := beq_iff_eq.mpr h92
              clear hq hp hp' h10 h34 h92
              go_wp2_with (first
                | (go_at_call 26; refine (strs_plain.calls c false _ HPF.out).mono ?_; rintro e w' ⟨rfl, ⟨nq, rfl⟩⟩)
                | (at_builtin; refine app_lit rfl _ _ rfl (w.heap.size + 1 + 1) u4 (qs a0 k) [92, c] _ rfl (by exact HO.out) _ rfl rfl (by simp; omega) (by simp; omega) ?_; intro v1 w1 hown1 hg1; have R := q_rel (w := w) (W2 := wr.drewN nq) hlt (by exact HO.out) hown1 (by rw [HC.out]; exact HQ.out) _ (by exact hg1) (by exact HW.out) (pw_below_drewN HB _); clear hown1 hg1))
              go_roundw
              case rel => exact ⟨k + 1, by omega, by go_num, R.1, R.2.1, R.2.2.out⟩
              case measure => simp [intOf]; omega
            · have hq : q1 c = [92, 120, digl.getD (c / 16).toNat 0, digl.getD (c % 16).toNat 0] := by unfold q1; rw [if_neg hp, if_neg h10, if_neg (by omega)]
              have HQ := Aside0.mk hq
              have hb3 : (c == 92) = false := beq_eq_false_iff_ne.mpr h92
              clear hq hp hp' h10 h34 h92
              go_wp2_with (go_at_call 26; refine (strs_plain.calls c false _ HPF.out).mono ?_; rintro e w' ⟨rfl, ⟨nq, rfl⟩⟩)
              have h16 := and_15 c hr.1 hr.2
              have q1a : 0 ≤ c / 16 := by omega
              have q1b : c / 16 < 16 := by omega
              have q2a : 0 ≤ c % 16 := by omega
              have q2b : c % 16 < 16 := by omega
              have g1 := digs_cell HW.out (c / 16).toNat (by omega)
              have g2 := digs_cell HW.out (c % 16).toNat (by omega)
              generalize digl.getD (c / 16).toNat 0 = d1 at g1 HQ
              generalize digl.getD (c % 16).toNat 0 = d2 at g2 HQ
              go_region_law (refine app_step rfl _ _ rfl (w.heap.size + 1 + 1) u4 (qs a0 k) [92, 120, d1, d2] _ rfl (by exact HO.out) _ rfl rfl (by simp; omega) (by simp; omega) ?_; intro v1 w1 hown1 hg1; have R := q_rel (w := w) (W2 := (wr.drewN nq).drew) hlt (by exact HO.out) hown1 (by rw [HC.out]; exact HQ.out) _ (by exact hg1) (by exact HW.out) (pw_below_drewN HB _).drew; clear hown1 hg1)
              all_goals go_wp2
              all_goals go_roundw
              all_goals first
                | exact ⟨k + 1, by omega, by go_num, R.1, R.2.1, R.2.2.out⟩
                | (simp [intOf]; omega)
    · obtain rfl : k = a0.size := by omega
      have hql := qs_len a0 a0.size (Nat.le_refl _)
      have hsB := (show w.heap.size + 1 + 1 ≤ wr.heap.size from by have := (Array.getElem?_eq_some_iff.1 HW.out).1; omega)
      go_wp2_with (at_builtin; refine app_lit rfl _ _ rfl (w.heap.size + 1 + 1) u4 (qs a0 a0.size) [34] _ rfl (by exact HO.out) _ rfl rfl (by simp; omega) (by omega) ?_; intro v1 w1 hown1 hg1; have hs1 := own_string Try.underlying40 Try.underlying5 Try.underlying9 hown1; have HB1 := Aside0.mk ((HB.alloc HB.size _).grown hg1 (HB.alloc HB.size _).size (fun j hj => by have := own_base HO.out j hj; omega)); clear hown1 hg1)
      go_ret
      exact ⟨rfl, HB1.out⟩
end Go.Proofs.Ytobkalblncefbaa.Q
