import Derived.Test.YtobkalblncefbaaHa
import Derived.Test.YtobkalblncefbaaQx10
import Derived.Deep.RegionWith
import Derived.Outline
namespace Go.Proofs.Ytobkalblncefbaa.Q
open Go.RowKit Go.Proofs.YtobkalblncefbaaW.PrintWords Go.Proofs.YtobkalblncefbaaW.PrintLast Go.Proofs.YtobkalblncefbaaW.PrintMore
attribute [local go_sem] digs
attribute [local go_sem] max2_int min2_int max_two min_two max_three min_three max_four min_four
set_option linter.unusedVariables false
set_option linter.unusedSimpArgs false

def digl : List Int := [48, 49, 50, 51, 52, 53, 54, 55, 56, 57, 97, 98, 99, 100, 101, 102]
def dig (c : Int) : Int := if 48 ≤ c ∧ c ≤ 57 then c - 48 else if 97 ≤ c ∧ c ≤ 102 then c - 87 else -1
theorem index_all : ∀ c : Fin 256, slices_Index_byte_byte.f 20 digl c.val = some (dig c.val) := by decide +kernel
theorem index_dig (c : Int) (h0 : 0 ≤ c) (h1 : c ≤ 255) : slices_Index_byte_byte.f 20 digl c = some (dig c) := by
  have h := index_all ⟨c.toNat, by omega⟩
  have e : ((c.toNat : Nat) : Int) = c := by omega
  simpa [e] using h
theorem dig_range (c : Int) : -1 ≤ dig c ∧ dig c ≤ 15 := by unfold dig; split <;> (try split) <;> omega

def escx (a0 : ByteArray) : Int × Int × Int :=
  if a0.size = 1 then (0, 0, 11) else if dig (bt a0 1) < 0 then (0, 0, 10) else
  if a0.size = 2 then (0, 0, 11) else if dig (bt a0 2) < 0 then (0, 0, 10) else (16 * dig (bt a0 1) + dig (bt a0 2), 3, 0)

def strs_escape.f (a0 : ByteArray) : Option (Int × Int × Int) :=
  if a0.size = 0 then some (0, 0, 11) else
  if bt a0 0 = 110 then some (10, 1, 0) else if bt a0 0 = 34 then some (34, 1, 0) else if bt a0 0 = 92 then some (92, 1, 0) else
  if bt a0 0 ≠ 120 then some (0, 0, 10) else
  some (escx a0)

theorem toList_nil (a0 : ByteArray) : a0.toList = [] ↔ a0.size = 0 := by
  rw [Go.ByteArray.toList_eq, ← List.length_eq_zero_iff, Array.length_toList]
  rfl

theorem esc_none (a0 : ByteArray) (w : World) (h0 : a0.size = 0) :
    Calls Try.prog 27 #[.string a0] w fun e w' => e = .returned (.tuple #[.int .u8 0, .int .i64 0, .int .i64 11]) ∧ Below w.heap.size w w' := by
  have he : a0.toList = [] := (toList_nil a0).2 h0
  go_enter Try.func27, Try.ntmps27
  go_wp2
  go_ret3
  exact ⟨rfl, Below.refl _ _⟩

theorem signs_at (w : World) (c : Int) : (Instr.lookup 47 (.map (some w.heap.size)) (.int .u8 c) true).run Try.prog (w.alloc (.map sgns 3)).drew =
    .ok (.tuple #[.int .u8 (if c = 110 then 10 else if c = 34 then 34 else if c = 92 then 92 else 0), .bool (decide (c = 110 ∨ c = 34 ∨ c = 92))]) (w.alloc (.map sgns 3)).drew :=
  run_lookup_signs (w.alloc (.map sgns 3)).drew _ (MapKept.heap_alloc w (.map sgns 3)).1 c

theorem esc_hit (a0 : ByteArray) (w : World) (h0 : 0 < a0.size) (c : Int) (hc : (if bt a0 0 = 110 then 10 else if bt a0 0 = 34 then 34 else if bt a0 0 = 92 then 92 else 0) = c) (hb : decide (bt a0 0 = 110 ∨ bt a0 0 = 34 ∨ bt a0 0 = 92) = true) :
    Calls Try.prog 27 #[.string a0] w fun e w' => e = .returned (.tuple #[.int .u8 c, .int .i64 1, .int .i64 0]) ∧ Below w.heap.size w w' := by
  have he : (a0.toList == ([] : List UInt8)) = false := beq_eq_false_iff_ne.mpr (fun e => by have := (toList_nil a0).1 e; omega)
  have hx : ∀ h : 0 < a0.size, ((a0[0]'h).toNat : Int) = bt a0 0 := fun h => bt_at a0 0 h
  have hl := signs_at w (bt a0 0)
  rw [hc, hb] at hl
  have HC := Aside0.mk hc
  have HB := Aside0.mk hb
  clear hc hb
  go_enter Try.func27, Try.ntmps27
  go_wp2
  go_region_with (go_at_call 30; refine (strs_signs.calls _).mono ?_; rintro e w' ⟨rfl, rfl⟩)
  all_goals go_wp2
  all_goals go_ret3
  all_goals exact ⟨rfl, ((Below.refl _ _).alloc (Nat.le_refl _) _).drew⟩

/-- Neither a sign nor an x. -/
theorem esc_bad (a0 : ByteArray) (w : World) (h0 : 0 < a0.size) (h1 : ¬ bt a0 0 = 110) (h2 : ¬ bt a0 0 = 34) (h3 : ¬ bt a0 0 = 92) (h4 : ¬ bt a0 0 = 120) :
    Calls Try.prog 27 #[.string a0] w fun e w' => e = .returned (.tuple #[.int .u8 0, .int .i64 0, .int .i64 10]) ∧ Below w.heap.size w w' := by
  have he : (a0.toList == ([] : List UInt8)) = false := beq_eq_false_iff_ne.mpr (fun e => by have := (toList_nil a0).1 e; omega)
  have hx : ∀ h : 0 < a0.size, ((a0[0]'h).toNat : Int) = bt a0 0 := fun h => bt_at a0 0 h
  have hl := signs_at w (bt a0 0)
  rw [if_neg h1, if_neg h2, if_neg h3, decide_eq_false (by simp [h1, h2, h3])] at hl
  have h4' : (bt a0 0 != 120) = true := bne_iff_ne.mpr h4
  clear h1 h2 h3 h4
  go_enter Try.func27, Try.ntmps27
  go_wp2
  go_region_with (go_at_call 30; refine (strs_signs.calls _).mono ?_; rintro e w' ⟨rfl, rfl⟩)
  all_goals go_wp2
  all_goals go_ret3
  all_goals exact ⟨rfl, ((Below.refl _ _).alloc (Nat.le_refl _) _).drew⟩

theorem wr16 (x y : Int) (hx : -1 ≤ x ∧ x ≤ 15) (hy : -1 ≤ y ∧ y ≤ 15) : wrap64 (16 * x + y) = 16 * x + y := by unfold wrap64; omega

/-- What Index reads: the digits' array, cut whole. -/
theorem digs_reads (W : World) (b : Nat) (hb : W.heap[b]? = some (.cells digs 38 (0, 0))) : Kd.C (Kd.int .u8) W (some ⟨b, 0, none⟩) digl.length digl := by
  refine Kd.C_of_reads (d := (0 : Int)) (h1 := fun _ => rfl) ⟨rfl, by decide, fun _ => ⟨_, rfl, fun j hj => ?_⟩⟩
  have hj' : j < 16 := hj
  clear hj
  rw [add_plain]
  have hc := blk_cell hb j
  rw [hc]
  show ((digl.map (Value.int .u8)).toArray)[j]? = _
  rw [List.getElem?_toArray, List.getElem?_map, List.getD_eq_getElem?_getD, List.getElem?_eq_getElem (show j < digl.length from hj')]
  rfl

theorem index_calls (c : Int) (h0 : 0 ≤ c) (h1 : c ≤ 255) (W : World) (b : Nat) (hb : W.heap[b]? = some (.cells digs 38 (0, 0))) :
    Calls Try.prog 31 #[.slice (some ⟨b, 0, none⟩) 16 16, .int .u8 c] W fun e w' => e = .returned (.int .i64 (dig c)) ∧ Drawn0 W w' :=
  slices_Index_byte_byte.calls 20 (some ⟨b, 0, none⟩) 16 digl c (dig c) W (digs_reads W b hb) (by decide) (index_dig c h0 h1)

theorem heap_new3 (w : World) (a b c : Obj) : (((w.alloc a).alloc b).alloc c).drew.heap[w.heap.size + 1 + 1]? = some c := by
  have h := (MapKept.heap_alloc ((w.alloc a).alloc b) c).1
  exact (show (((w.alloc a).alloc b).alloc c).heap[w.heap.size + 1 + 1]? = some c by simpa using h)

set_option maxHeartbeats 1000000 in
theorem esc_x (a0 : ByteArray) (w : World) (h0 : 0 < a0.size) (h4 : bt a0 0 = 120) (r1 r2 r3 : Int) (h : escx a0 = (r1, r2, r3)) :
    Calls Try.prog 27 #[.string a0] w fun e w' => e = .returned (.tuple #[.int .u8 r1, .int .i64 r2, .int .i64 r3]) ∧ Below w.heap.size w w' := by
  have he : (a0.toList == ([] : List UInt8)) = false := beq_eq_false_iff_ne.mpr (fun e => by have := (toList_nil a0).1 e; omega)
  have hx : ∀ h : 0 < a0.size, ((a0[0]'h).toNat : Int) = bt a0 0 := fun h => bt_at a0 0 h
  have hl := signs_at w (bt a0 0)
  rw [if_neg (by omega), if_neg (by omega), if_neg (by omega), decide_eq_false (by omega)] at hl
  have h4' : (bt a0 0 != 120) = false := bne_eq_false_iff_eq.mpr h4
  have H := Aside0.mk h
  clear h4 h
  go_enter Try.func27, Try.ntmps27
  go_wp2
  go_region_with (go_at_call 30; refine (strs_signs.calls _).mono ?_; rintro e w' ⟨rfl, rfl⟩)
  all_goals go_wp2_with (go_at_call 25; refine (strs_sixteen.calls _).mono ?_; rintro e w' ⟨rfl, rfl⟩)
  all_goals clear hl h4'
  all_goals
    go_loopw [8, 9, 10] (fun n i _ wr => ∃ j : Int, i = .int .i64 j ∧ 1 ≤ j ∧ j ≤ 3 ∧ Aside0 ((j = 1 ∧ n = .int .i64 0) ∨ (j = 2 ∧ 1 < a0.size ∧ 0 ≤ dig (bt a0 1) ∧ n = .int .i64 (dig (bt a0 1))) ∨ (j = 3 ∧ 2 < a0.size ∧ 0 ≤ dig (bt a0 1) ∧ 0 ≤ dig (bt a0 2) ∧ n = .int .i64 (16 * dig (bt a0 1) + dig (bt a0 2)))) ∧ Aside0 (wr.heap[w.heap.size + 1 + 1]? = some (.cells digs 38 (0, 0))) ∧ Below w.heap.size w wr) (fun _ i _ _ => 3 - (intOf i).toNat)
    case atStart => exact ⟨1, rfl, by omega, by omega, ⟨.inl ⟨rfl, rfl⟩⟩, ⟨heap_new3 _ _ _ _⟩, by repeat (first | exact Below.refl _ _ | apply Below.drew | refine Below.alloc ?_ (by simp; try omega) _)⟩
    case round =>
      obtain ⟨j, rfl, hj1, hj3, HJ, HW, HB⟩ := hrel
      rcases HJ.out with ⟨rfl, rfl⟩ | ⟨rfl, hs1, hd1, rfl⟩ | ⟨rfl, hs2, hd1, hd2, rfl⟩
      · clear HJ
        by_cases hs1 : 1 < a0.size
        · have hx1 : ∀ h : 1 < a0.size, ((a0[1]'h).toNat : Int) = bt a0 1 := fun h => bt_at a0 1 h
          have hr := bt_range a0 1
          by_cases hd : dig (bt a0 1) < 0
          · obtain ⟨rfl, rfl, rfl⟩ : r1 = 0 ∧ r2 = 0 ∧ r3 = 10 := by
              have := H.out; unfold escx at this; rw [if_neg (by omega), if_pos hd] at this; simp at this; omega
            clear H
            have hd' : decide (dig (bt a0 1) < 0) = true := decide_eq_true hd
            go_wp2
            go_region_with (go_at_call 31; refine (index_calls _ hr.1 hr.2 _ _ (by exact HW.out)).mono ?_; rintro e w' ⟨rfl, ⟨nq, rfl⟩⟩)
            all_goals go_wp2
            all_goals go_ret3
            all_goals exact ⟨rfl, pw_below_drewN HB _⟩
          · have hd' : decide (dig (bt a0 1) < 0) = false := decide_eq_false hd
            have hd2 : ¬ dig (bt a0 1) < 0 := hd
            have hdr := dig_range (bt a0 1)
            go_wp2
            go_region_with (go_at_call 31; refine (index_calls _ hr.1 hr.2 _ _ (by exact HW.out)).mono ?_; rintro e w' ⟨rfl, ⟨nq, rfl⟩⟩)
            all_goals go_wp2
            all_goals go_roundw
            all_goals first
              | exact ⟨2, rfl, by omega, by omega, ⟨.inr (.inl ⟨rfl, hs1, by omega, by simp⟩)⟩, ⟨HW.out⟩, pw_below_drewN HB _⟩
              | (simp [intOf]; done)
        · obtain ⟨rfl, rfl, rfl⟩ : r1 = 0 ∧ r2 = 0 ∧ r3 = 11 := by
            have := H.out; unfold escx at this; rw [if_pos (by omega)] at this; simp at this; omega
          clear H
          go_wp2
          go_ret3
          exact ⟨rfl, HB⟩
      · clear HJ
        by_cases hs2 : 2 < a0.size
        · have hx1 : ∀ h : 2 < a0.size, ((a0[2]'h).toNat : Int) = bt a0 2 := fun h => bt_at a0 2 h
          have hr := bt_range a0 2
          by_cases hd : dig (bt a0 2) < 0
          · obtain ⟨rfl, rfl, rfl⟩ : r1 = 0 ∧ r2 = 0 ∧ r3 = 10 := by
              have := H.out; unfold escx at this; rw [if_neg (by omega), if_neg (by omega), if_neg (by omega), if_pos hd] at this; simp at this; omega
            clear H
            have hd' : decide (dig (bt a0 2) < 0) = true := decide_eq_true hd
            go_wp2
            go_region_with (go_at_call 31; refine (index_calls _ hr.1 hr.2 _ _ (by exact HW.out)).mono ?_; rintro e w' ⟨rfl, ⟨nq, rfl⟩⟩)
            all_goals go_wp2
            all_goals go_ret3
            all_goals exact ⟨rfl, pw_below_drewN HB _⟩
          · have hd' : decide (dig (bt a0 2) < 0) = false := decide_eq_false hd
            have hd2 : ¬ dig (bt a0 2) < 0 := hd
            have hdr := dig_range (bt a0 2)
            have hdr1 := dig_range (bt a0 1)
            go_wp2
            go_region_with (go_at_call 31; refine (index_calls _ hr.1 hr.2 _ _ (by exact HW.out)).mono ?_; rintro e w' ⟨rfl, ⟨nq, rfl⟩⟩)
            all_goals go_wp2
            all_goals go_roundw
            all_goals first
              | exact ⟨3, rfl, by omega, by omega, ⟨.inr (.inr ⟨rfl, hs2, by omega, by omega, by simp⟩)⟩, ⟨HW.out⟩, pw_below_drewN HB _⟩
              | (simp [intOf]; done)
        · obtain ⟨rfl, rfl, rfl⟩ : r1 = 0 ∧ r2 = 0 ∧ r3 = 11 := by
            have := H.out; unfold escx at this; rw [if_neg (by omega), if_neg (by omega), if_pos (by omega)] at this; simp at this; omega
          clear H
          go_wp2
          go_ret3
          exact ⟨rfl, HB⟩
      · clear HJ
        have hdr := dig_range (bt a0 2)
        have hdr1 := dig_range (bt a0 1)
        obtain ⟨rfl, rfl, rfl⟩ : r1 = 16 * dig (bt a0 1) + dig (bt a0 2) ∧ r2 = 3 ∧ r3 = 0 := by
          have := H.out; unfold escx at this; rw [if_neg (by omega), if_neg (by omega), if_neg (by omega), if_neg (by omega)] at this; simp at this; omega
        clear H
        go_wp2
        go_ret3
        exact ⟨by simp, HB⟩

theorem strs_escape.calls (a0 : ByteArray) (r1 : Int) (r2 : Int) (r3 : Int) (w : World) (h : strs_escape.f a0 = some (r1, r2, r3)) :
    Calls Try.prog 27 #[.string a0] w fun e w' => e = .returned (.tuple #[.int .u8 r1, .int .i64 r2, .int .i64 r3]) ∧ Below w.heap.size w w' := by
  unfold strs_escape.f at h
  by_cases h0 : a0.size = 0
  · rw [if_pos h0] at h
    simp at h
    obtain ⟨rfl, rfl, rfl⟩ := h
    exact esc_none a0 w h0
  rw [if_neg h0] at h
  by_cases h1 : bt a0 0 = 110
  · rw [if_pos h1] at h
    simp at h
    obtain ⟨rfl, rfl, rfl⟩ := h
    exact esc_hit a0 w (by omega) 10 (by rw [if_pos h1]) (by simp [h1])
  rw [if_neg h1] at h
  by_cases h2 : bt a0 0 = 34
  · rw [if_pos h2] at h
    simp at h
    obtain ⟨rfl, rfl, rfl⟩ := h
    exact esc_hit a0 w (by omega) 34 (by rw [if_neg h1, if_pos h2]) (by simp [h2])
  rw [if_neg h2] at h
  by_cases h3 : bt a0 0 = 92
  · rw [if_pos h3] at h
    simp at h
    obtain ⟨rfl, rfl, rfl⟩ := h
    exact esc_hit a0 w (by omega) 92 (by rw [if_neg h1, if_neg h2, if_pos h3]) (by simp [h3])
  rw [if_neg h3] at h
  by_cases h4 : bt a0 0 = 120
  · rw [if_neg (by simpa using h4)] at h
    exact esc_x a0 w (by omega) h4 r1 r2 r3 (Option.some.inj h)
  · rw [if_pos h4] at h
    simp at h
    obtain ⟨rfl, rfl, rfl⟩ := h
    exact esc_bad a0 w (by omega) h1 h2 h3 h4
end Go.Proofs.Ytobkalblncefbaa.Q
