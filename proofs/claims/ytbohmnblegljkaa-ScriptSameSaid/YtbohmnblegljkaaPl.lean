/-
  Plain words on numbers of bytes, and on bits; no program in sight.
-/
import Derived.Laws.Bits64
import Derived.WalkArith
namespace Go.Bl
set_option linter.unusedVariables false

/-- the number of bytes, the highest first -/
def num8 (l : List UInt8) : Nat := l.foldl (fun n c => n * 256 + c.toNat) 0
theorem num8_snoc (l : List UInt8) (c : UInt8) : num8 (l ++ [c]) = num8 l * 256 + c.toNat := by simp [num8]
theorem num8_lt : ∀ (n : Nat) (l : List UInt8), l.length = n → num8 l < 256 ^ n
  | 0, l, h => by
    have : l = [] := List.eq_nil_of_length_eq_zero h
    subst this; simp [num8]
  | n + 1, l, h => by
    have hne : l ≠ [] := fun e => by subst e; simp at h
    rw [← List.dropLast_concat_getLast hne, num8_snoc]
    have := num8_lt n l.dropLast (by simp [h])
    have hc := (l.getLast hne).toNat_lt
    rw [Nat.pow_succ]
    omega
theorem num8_take_succ (l : List UInt8) (j : Nat) (h : j < l.length) : num8 (l.take (j + 1)) = num8 (l.take j) * 256 + l[j].toNat := by
  rw [List.take_succ_eq_append_getElem h, num8_snoc]

/-- as many bytes as are wanted; missing ones are noughts -/
def padTo (k : Nat) (xs : List UInt8) : List UInt8 := (xs.take k ++ List.replicate k 0).take k
theorem padTo_length (k : Nat) (xs : List UInt8) : (padTo k xs).length = k := by simp [padTo]

theorem bits_or_u64_nat (a b : Nat) (ha : a < 18446744073709551616) (hb : b < 18446744073709551616) :
    bits .or .u64 (a : Int) (b : Int) = ((a ||| b : Nat) : Int) := by
  have hx : a ||| b < 2 ^ 64 := Nat.or_lt_two_pow (by omega) (by omega)
  have h1 : (BitVec.ofInt 64 (a : Int)).toNat = a := by
    rw [BitVec.ofInt_natCast, BitVec.toNat_ofNat]; exact Nat.mod_eq_of_lt (by omega)
  have h2 : (BitVec.ofInt 64 (b : Int)).toNat = b := by
    rw [BitVec.ofInt_natCast, BitVec.toNat_ofNat]; exact Nat.mod_eq_of_lt (by omega)
  show IntKind.u64.wrap ((BitVec.ofInt 64 (a : Int) ||| BitVec.ofInt 64 (b : Int)).toNat : Int) = _
  rw [BitVec.toNat_or, h1, h2, IntKind.wrap_u64]
  omega

theorem mul_or (x c : Nat) (hc : c < 256) : x * 256 ||| c = x * 256 + c := by
  have := Nat.two_pow_add_eq_or_of_lt (i := 8) (b := c) (by simpa using hc) x
  rw [Nat.mul_comm x 256]
  simpa using this.symm

/-- 'n << 8 | c' -/
theorem shl_or (x c : Nat) (hx : x < 72057594037927936) (hc : c < 256) :
    bits .or .u64 (IntKind.u64.wrap ((x : Int) * 256)) (c : Int) = ((x * 256 + c : Nat) : Int) := by
  have e : IntKind.u64.wrap ((x : Int) * 256) = ((x * 256 : Nat) : Int) := by rw [IntKind.wrap_u64]; omega
  rw [e, bits_or_u64_nat _ _ (by omega) (by omega), mul_or x c hc]
theorem num_step (l : List UInt8) (j : Nat) (hj : j < l.length) (h8 : j < 8) :
    bits .or .u64 (IntKind.u64.wrap ((num8 (l.take j) : Nat) * 256)) (IntKind.u64.wrap ((l[j]?.getD 0).toNat : Int)) = ((num8 (l.take (j + 1)) : Nat) : Int) := by
  have h1 := num8_lt j (l.take j) (by simp; omega)
  have h2 : 256 ^ j ≤ 256 ^ 7 := Nat.pow_le_pow_right (by decide) (by omega)
  have h3 : (256 : Nat) ^ 7 = 72057594037927936 := by decide
  have hb := (l[j]).toNat_lt
  have e : l[j]?.getD 0 = l[j] := by simp [hj]
  have e2 : IntKind.u64.wrap ((l[j]).toNat : Int) = ((l[j]).toNat : Int) := by rw [IntKind.wrap_u64]; omega
  rw [e, e2, shl_or _ _ (by omega) (by omega), num8_take_succ l j hj]
end Go.Bl
