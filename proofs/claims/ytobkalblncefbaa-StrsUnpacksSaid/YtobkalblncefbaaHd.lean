import Derived.Test.YtobkalblncefbaaHc
import Derived.IntWalk
import Derived.WalkSpells
namespace Go.Proofs.Ytobkalblncefbaa.Q
open Go.RowKit Go.Proofs.YtobkalblncefbaaW.PrintWords Go.Proofs.YtobkalblncefbaaW.PrintLast Go.Proofs.YtobkalblncefbaaW.PrintMore
attribute [local go_sem] max2_int min2_int max_two min_two max_three min_three max_four min_four
set_option linter.unusedVariables false
set_option linter.unusedSimpArgs false

def selvageref03_Quote.f (a0 : ByteArray) : Option (ByteArray) := if a0.size ≤ 1000 then some (strOfNums (qs a0 a0.size ++ [34])) else none

theorem str_app (xs ys : List Int) : strOfNums xs ++ strOfNums ys = strOfNums (xs ++ ys) := by
  apply ByteArray.ext
  simp [strOfNums, ByteArray.data_append]
theorem str_size (xs : List Int) : (strOfNums xs).size = xs.length := by
  show (strOfNums xs).data.size = xs.length
  simp [strOfNums]
theorem str_one (a0 : ByteArray) (k : Nat) (h : k < a0.size) : a0.extract k (k + 1) = strOfNums [bt a0 k] := by
  apply ByteArray.ext
  have hd : k < a0.data.size := h
  have hb : bt a0 k = ((a0.data[k]'hd).toNat : Int) := by
    unfold bt
    rw [dif_pos (by simpa using h)]
    rfl
  rw [hb]
  apply Array.ext
  · simp [strOfNums, ByteArray.data_extract]; omega
  · intro i h1 h2
    have : i = 0 := by simp [strOfNums] at h2; exact h2
    subst this
    simp [strOfNums, ByteArray.data_extract]
theorem str_step {a0 : ByteArray} {k : Nat} {s : ByteArray} {l : List Int} (hk : k < a0.size) (hz : a0.size ≤ 1000) (hs : s = strOfNums (qs a0 k)) (hq : q1 (bt a0 k) = l) :
    Aside0 (s ++ strOfNums l = strOfNums (qs a0 (k + 1))) ∧ (s ++ strOfNums l).size ≤ 10000 := by
  have e : s ++ strOfNums l = strOfNums (qs a0 (k + 1)) := by rw [hs, str_app, qs_succ a0 k hk, hq]
  refine ⟨⟨e⟩, ?_⟩
  rw [e, str_size]
  have := qs_len a0 (k + 1) (by omega)
  omega
def dstr : ByteArray := ⟨#[48, 49, 50, 51, 52, 53, 54, 55, 56, 57, 97, 98, 99, 100, 101, 102]⟩
theorem str_dig : ∀ c : Fin 16, dstr.extract c.val (c.val + 1) = strOfNums [digl.getD c.val 0] := by decide +kernel

theorem dig_slice (i : Nat) (hi : i < 16) (W : World) : (Instr.slice 9 (.string ⟨#[48, 49, 50, 51, 52, 53, 54, 55, 56, 57, 97, 98, 99, 100, 101, 102]⟩) (some (.int .i64 (i : Int))) (some (.int .i64 ((i : Int) + 1))) none).run Try.prog W = .ok (.string (strOfNums [digl.getD i 0])) W := by
  have h := run_slice_string_if (P := Try.prog) W 9 dstr .i64 .i64 (i : Int) ((i : Int) + 1) Try.underlying9
  have hs : (dstr.size : Int) = 16 := rfl
  rw [if_pos (by rw [hs]; omega), if_pos (by omega)] at h
  have e : ((i : Int) + 1).toNat = i + 1 := by omega
  rw [e, Int.toNat_natCast, str_dig ⟨i, hi⟩] at h
  exact h

set_option maxHeartbeats 1000000 in
theorem selvageref03_Quote.calls (a0 : ByteArray) (r : ByteArray) (w : World) (h : selvageref03_Quote.f a0 = some r) :
    Calls Try.prog 18 #[.string a0] w fun e w' => e = .returned (.string r) ∧ Drawn0 w w' := by
  unfold selvageref03_Quote.f at h
  by_cases hsz : a0.size ≤ 1000
  case neg => rw [if_neg hsz] at h; cases h
  rw [if_pos hsz] at h
  obtain rfl := Option.some.inj h
  clear h
  go_enter Try.func18, Try.ntmps18
  go_wp2
  go_loopw [4, 5] (fun v i wr => ∃ (k : Nat) (s : ByteArray), k ≤ a0.size ∧ i = .int .i64 k ∧ v = .string s ∧ Aside0 (s = strOfNums (qs a0 k)) ∧ s.size ≤ 10000 ∧ Drawn0 w wr) (fun _ i _ => a0.size - (intOf i).toNat)
  case atStart => exact ⟨0, _, Nat.zero_le _, rfl, rfl, ⟨by rfl⟩, by decide, Drawn0.refl _⟩
  case round =>
    obtain ⟨k, s, hk, rfl, rfl, HS, hss, ⟨m, rfl⟩⟩ := hrel
    by_cases hlt : k < a0.size
    · have hx : ∀ h : k < a0.size, ((a0[k]'h).toNat : Int) = bt a0 k := fun h => by simpa using bt_at a0 k (by simpa using h)
      have hr := bt_range a0 k
      generalize hc : bt a0 k = c at hx hr
      have HC := Aside0.mk hc
      clear hc
      by_cases hp : pln c = true
      · have hp' : 32 ≤ c ∧ c ≤ 126 ∧ c ≠ 34 ∧ c ≠ 92 := by unfold pln at hp; simpa using hp
        obtain ⟨p1, p2, p3, p4⟩ := hp'
        have hq : q1 c = [c] := by unfold q1; rw [if_pos hp]
        have HQ := Aside0.mk hq
        have hb1 : (c == 34) = false := beq_eq_false_iff_ne.mpr p3
        have hb2 : (c == 92) = false := beq_eq_false_iff_ne.mpr p4
        have hb3 : (c == 10) = false := beq_eq_false_iff_ne.mpr (by omega)
        have ho := str_one a0 k hlt
        rw [HC.out] at ho
        have hz1 : (strOfNums [c]).size ≤ 1 := by rw [str_size]; simp
        have R := str_step hlt hsz HS.out ((congrArg q1 HC.out).trans HQ.out)
        generalize strOfNums [c] = S1 at ho hz1 R
        clear hq hp
        go_wp2
        go_roundw
        case rel => exact ⟨k + 1, _, by omega, by go_num, rfl, R.1, R.2, ⟨⟨m, rfl⟩⟩⟩
        case measure => simp [intOf]; omega
      · by_cases h10 : c = 10
        · have hq : q1 c = [92, 110] := by unfold q1; rw [if_neg hp, if_pos h10]
          have HQ := Aside0.mk hq
          have hb1 : (c == 34) = false := beq_eq_false_iff_ne.mpr (by omega)
          have hb2 : (c == 92) = false := beq_eq_false_iff_ne.mpr (by omega)
          have hb3 : (c == 10) = true := beq_iff_eq.mpr h10
          have R := str_step hlt hsz HS.out ((congrArg q1 HC.out).trans HQ.out)
          clear hq hp h10
          go_wp2
          go_roundw
          case rel => exact ⟨k + 1, _, by omega, by go_num, rfl, R.1, R.2, ⟨⟨m, rfl⟩⟩⟩
          case measure => simp [intOf]; omega
        · have hb : (c == 10) = false := beq_eq_false_iff_ne.mpr h10
          by_cases h34 : c = 34
          · have hq : q1 c = [92, 34] := by unfold q1; rw [if_neg hp, if_neg h10, if_pos (.inl h34), h34]
            have HQ := Aside0.mk hq
            have hb1 : (c == 34) = true := beq_iff_eq.mpr h34
            have R := str_step hlt hsz HS.out ((congrArg q1 HC.out).trans HQ.out)
            clear hq hp h10 h34
            go_wp2
            go_roundw
            case rel => exact ⟨k + 1, _, by omega, by go_num, rfl, R.1, R.2, ⟨⟨m, rfl⟩⟩⟩
            case measure => simp [intOf]; omega
          · have hb2 : (c == 34) = false := beq_eq_false_iff_ne.mpr h34
            by_cases h92 : c = 92
            · have hq : q1 c = [92, 92] := by unfold q1; rw [if_neg hp, if_neg h10, if_pos (.inr h92), h92]
              have HQ := Aside0.mk hq
              have hb1 : (c == 92) = true := beq_iff_eq.mpr h92
              have R := str_step hlt hsz HS.out ((congrArg q1 HC.out).trans HQ.out)
              clear hq hp h10 h34 h92
              go_wp2
              go_roundw
              case rel => exact ⟨k + 1, _, by omega, by go_num, rfl, R.1, R.2, ⟨⟨m, rfl⟩⟩⟩
              case measure => simp [intOf]; omega
            · have hq : q1 c = [92, 120, digl.getD (c / 16).toNat 0, digl.getD (c % 16).toNat 0] := by unfold q1; rw [if_neg hp, if_neg h10, if_neg (by omega)]
              have HQ := Aside0.mk hq
              have hb3 : (c == 92) = false := beq_eq_false_iff_ne.mpr h92
              have hrange : c < 32 ∨ 126 < c := by
                unfold pln at hp; simp at hp; omega
              have q1a : 0 ≤ c / 16 := by omega
              have q1b : c / 16 < 16 := by omega
              have q2a : 0 ≤ c % 16 := by omega
              have q2b : c % 16 < 16 := by omega
              obtain ⟨i, ei⟩ : ∃ i : Nat, c / 16 = (i : Int) := ⟨(c / 16).toNat, by omega⟩
              obtain ⟨j, ej⟩ : ∃ j : Nat, c % 16 = (j : Int) := ⟨(c % 16).toNat, by omega⟩
              have hi16 : i < 16 := by omega
              have hj16 : j < 16 := by omega
              rw [ei, ej] at HQ
              have ED := dig_slice i hi16
              have EJ := dig_slice j hj16
              rw [Int.toNat_natCast, Int.toNat_natCast] at HQ
              obtain ⟨S1, hS1, hz1⟩ : ∃ S, strOfNums [digl.getD i 0] = S ∧ S.size ≤ 1 := ⟨_, rfl, by rw [str_size]; simp⟩
              obtain ⟨S2, hS2, hz2⟩ : ∃ S, strOfNums [digl.getD j 0] = S ∧ S.size ≤ 1 := ⟨_, rfl, by rw [str_size]; simp⟩
              rw [hS1] at ED
              rw [hS2] at EJ
              have HS1 := Aside0.mk hS1
              have HS2 := Aside0.mk hS2
              clear hS1 hS2
              clear q1a q1b q2a q2b
              have R0 := str_step hlt hsz HS.out ((congrArg q1 HC.out).trans HQ.out)
              have e4 : s ++ strOfNums [92, 120, digl.getD i 0, digl.getD j 0] = s ++ ⟨#[92, 120]⟩ ++ S1 ++ S2 := by
                rw [← HS1.out, ← HS2.out, ByteArray.append_assoc, ByteArray.append_assoc, str_app]
                have : (⟨#[92, 120]⟩ : ByteArray) = strOfNums [92, 120] := rfl
                rw [this, str_app]
                rfl
              rw [e4] at R0
              have R := R0
              clear R0 e4 hq hp h10 h34 h92
              rcases hrange with h32 | h126
              · have hd : decide (32 ≤ c) = false := decide_eq_false (by omega)
                go_wp2
                go_region
                go_wp2
                go_roundw
                case rel => exact ⟨k + 1, _, by omega, by go_num, rfl, R.1, R.2, ⟨⟨m + 1, rfl⟩⟩⟩
                case measure => simp [intOf]; omega
              · have hd : decide (32 ≤ c) = true := decide_eq_true (by omega)
                have hd2 : decide (c ≤ 126) = false := decide_eq_false (by omega)
                go_wp2
                go_region
                go_wp2
                go_roundw
                case rel => exact ⟨k + 1, _, by omega, by go_num, rfl, R.1, R.2, ⟨⟨m + 1, rfl⟩⟩⟩
                case measure => simp [intOf]; omega
    · obtain rfl : k = a0.size := by omega
      have HF : Aside0 (s ++ ⟨#[34]⟩ = strOfNums (qs a0 a0.size ++ [34])) := ⟨by rw [HS.out, ← str_app]; rfl⟩
      go_wp2
      go_ret
      exact ⟨by rw [HF.out]; rfl, ⟨⟨m, rfl⟩⟩⟩
end Go.Proofs.Ytobkalblncefbaa.Q
