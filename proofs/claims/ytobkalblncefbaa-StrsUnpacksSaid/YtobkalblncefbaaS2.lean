import Derived.Test.YtobkalblncefbaaS1
import Derived.Test.YtobkalblncefbaaQx4
import Derived.Laws.BitsAllLaws
import Derived.IntWalk
namespace Go.Proofs.Ytobkalblncefbaa.Q
open Go.RowKit Go.Proofs.YtobkalblncefbaaW.PrintWords Go.Proofs.YtobkalblncefbaaW.PrintLast Go.Proofs.YtobkalblncefbaaW.PrintMore
set_option linter.unusedVariables false
set_option linter.unusedSimpArgs false

/-- A number of bytes, the lowest first. -/
def pk : List Int → Int
  | [] => 0
  | b :: r => b + 256 * pk r
def Bytes (l : List Int) : Prop := ∀ x ∈ l, 0 ≤ x ∧ x ≤ 255
theorem pk_snoc (l : List Int) (b : Int) : pk (l ++ [b]) = pk l + b * 256 ^ l.length := by
  induction l with
  | nil => simp [pk]
  | cons x r ih =>
    rw [List.cons_append, pk, ih, pk, List.length_cons, Int.pow_succ]
    rw [Int.mul_add]
    have : (256 : Int) * (b * 256 ^ r.length) = b * (256 ^ r.length * 256) := by rw [Int.mul_comm, Int.mul_assoc]
    omega
theorem pk_range (l : List Int) (h : Bytes l) : 0 ≤ pk l ∧ pk l < 256 ^ l.length := by
  induction l with
  | nil => simp [pk]
  | cons x r ih =>
    have hx := h x (by simp)
    have := ih (fun y hy => h y (by simp [hy]))
    rw [pk, List.length_cons, Int.pow_succ]
    omega
theorem bytes_bytes (a0 : ByteArray) : Bytes (bytesOf a0) := by
  intro x hx
  unfold bytesOf at hx
  obtain ⟨b, _, rfl⟩ := List.mem_map.1 hx
  have := b.toNat_lt
  omega
theorem bytesOf_len (a0 : ByteArray) : (bytesOf a0).length = a0.size := by unfold bytesOf; rw [List.length_map, Array.length_toList]; rfl

/-- The bytes of number i. -/
def chunk (l : List Int) (i : Nat) : List Int := (l.drop (7 * i)).take 7
def wd (l : List Int) (i : Nat) : Int := pk (chunk l i)
def packL (l : List Int) : List Int := (l.length : Int) :: (List.range ((l.length + 6) / 7)).map (wd l)
theorem chunk_len (l : List Int) (i : Nat) : (chunk l i).length = min 7 (l.length - 7 * i) := by unfold chunk; simp
theorem chunk_bytes {l : List Int} (h : Bytes l) (i : Nat) : Bytes (chunk l i) := fun x hx => h x (List.mem_of_mem_drop (List.mem_of_mem_take hx))
theorem chunk_get (l : List Int) (i t : Nat) (h : t < 7) : (chunk l i)[t]? = l[7 * i + t]? := by
  unfold chunk
  rw [List.getElem?_take, if_pos h, List.getElem?_drop]

theorem ofInt_64 (a : Nat) (ha : a < 9223372036854775808) : (BitVec.ofInt 64 (a : Int)).toNat = a := by
  rw [BitVec.ofInt_natCast, BitVec.toNat_ofNat]; exact Nat.mod_eq_of_lt (by omega)
theorem i64_or_nat (a b : Nat) (ha : a < 9223372036854775808) (hb : b < 9223372036854775808) : Go.bits .or .i64 (a : Int) (b : Int) = ((a ||| b : Nat) : Int) := by
  have hx : a ||| b < 2 ^ 63 := Nat.or_lt_two_pow (by omega) (by omega)
  show IntKind.i64.wrap ((BitVec.ofInt 64 (a : Int) ||| BitVec.ofInt 64 (b : Int)).toNat : Int) = _
  rw [BitVec.toNat_or, ofInt_64 a ha, ofInt_64 b hb, IntWalk.i64_in _ (by omega)]

theorem or_step (x b : Int) (t : Nat) (ht : t ≤ 6) (hx0 : 0 ≤ x) (hx : x < 256 ^ t) (hb0 : 0 ≤ b) (hb : b ≤ 255) :
    Go.bits .or .i64 x (shl .i64 (wrap64 b) (wrap64 (8 * (t : Int)))) = x + b * 256 ^ t := by
  have w1 : wrap64 b = b := IntWalk.wrap64_in _ (by omega)
  have w2 : wrap64 (8 * (t : Int)) = 8 * (t : Int) := IntWalk.wrap64_in _ (by omega)
  rw [w1, w2]
  obtain ⟨X, rfl⟩ := Int.eq_ofNat_of_zero_le hx0
  obtain ⟨B, rfl⟩ := Int.eq_ofNat_of_zero_le hb0
  have e : (8 * (t : Int)).toNat = 8 * t := by omega
  have p : (2 : Int) ^ (8 * t) = 256 ^ t := by rw [Int.pow_mul]; rfl
  have p' : (2 : Nat) ^ (8 * t) = 256 ^ t := by rw [Nat.pow_mul]
  have hle : (256 : Nat) ^ t ≤ 256 ^ 6 := Nat.pow_le_pow_right (by decide) ht
  have c256 : (256 : Int) ^ t = ((256 ^ t : Nat) : Int) := by rw [Int.natCast_pow]; rfl
  unfold shl
  rw [e, Nat.min_eq_left (by simp [IntKind.bits]; omega), p, c256]
  rw [c256] at hx
  rw [show (256 : Nat) ^ 6 = 281474976710656 from rfl] at hle
  have sh := fun h => Nat.shiftLeft_add_eq_or_of_lt (b := X) (i := 8 * t) h B
  rw [Nat.shiftLeft_eq, p'] at sh
  generalize (256 : Nat) ^ t = P at *
  have hXn : X < P := by omega
  have hprod : B * P ≤ 255 * 281474976710656 := Nat.mul_le_mul (by omega) hle
  have c : ((B : Int) * (P : Int)) = ((B * P : Nat) : Int) := by rw [Int.natCast_mul]
  rw [c, IntWalk.i64_in _ (by omega), i64_or_nat X _ (by omega) (by omega)]
  have o := sh hXn
  rw [Nat.or_comm, ← o]
  omega
end Go.Proofs.Ytobkalblncefbaa.Q
