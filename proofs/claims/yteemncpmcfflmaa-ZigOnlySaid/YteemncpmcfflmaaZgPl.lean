/-
  Plain facts on folded numbers and their rows: no program in sight.
-/
import Derived.Test.YteemncpmcfflmaaPl3
import Derived.Laws.BitsAllLaws
namespace Go.Proofs.Yteemncpmcfflmaa.Pl

/-- A number of 64 bits with a sign. -/
def I64 (v : Int) : Prop := -9223372036854775808 ≤ v ∧ v ≤ 9223372036854775807
def fold (v : Int) : Nat := if 0 ≤ v then (2 * v).toNat else (-2 * v - 1).toNat
def unfold (n : Nat) : Int := if n % 2 = 0 then ((n / 2 : Nat) : Int) else -((n / 2 : Nat) : Int) - 1

theorem fold_lt {v : Int} (h : I64 v) : U64 (fold v : Nat) := by unfold fold; simp only [I64, U64] at *; split <;> omega
theorem unfold_i64 {n : Nat} (h : U64 n) : I64 (unfold n) := by unfold unfold; simp only [I64, U64] at *; split <;> omega
theorem unfold_fold (v : Int) : unfold (fold v) = v := by
  unfold unfold fold
  by_cases h : 0 ≤ v
  · rw [if_pos h, if_pos (by omega)]; omega
  · rw [if_neg h, if_neg (by omega)]; omega
theorem fold_unfold (n : Nat) : fold (unfold n) = n := by
  unfold unfold fold
  by_cases h : n % 2 = 0
  · rw [if_pos h, if_pos (by omega)]; omega
  · rw [if_neg h, if_neg (by omega)]; omega

theorem xor_all {a : Nat} (h : a < 18446744073709551616) : a ^^^ 18446744073709551615 = 18446744073709551615 - a := by
  have e : (18446744073709551616 : Nat) = 2 ^ 64 := by decide
  apply Nat.eq_of_testBit_eq
  intro i
  rw [Nat.testBit_xor]
  have h1 : (18446744073709551615 : Nat).testBit i = decide (i < 64) := by
    have := Nat.testBit_two_pow_sub_one 64 i
    rwa [show (2 : Nat) ^ 64 - 1 = 18446744073709551615 from by decide] at this
  have h2 : (18446744073709551615 - a).testBit i = (decide (i < 64) && !a.testBit i) := by
    have := Nat.testBit_two_pow_sub_succ (x := a) (n := 64) (by rw [← e]; exact h) i
    rwa [show 2 ^ 64 - (a + 1) = 18446744073709551615 - a from by rw [← e]; omega] at this
  rw [h1, h2]
  by_cases hi : i < 64
  · simp [hi]
  · have : a.testBit i = false := Nat.testBit_lt_two_pow (Nat.lt_of_lt_of_le (by rw [← e]; exact h) (Nat.pow_le_pow_right (by decide) (by omega)))
    simp [hi, this]
theorem fold_pos {v : Int} (h : I64 v) (h0 : 0 ≤ v) : bits BinOp.xor IntKind.u64 (IntKind.u64.wrap (IntKind.u64.wrap v * 2)) (IntKind.u64.wrap (v / 9223372036854775808)) = (fold v : Nat) := by
  simp only [I64] at h
  rw [wrap_u64, wrap_u64, wrap_u64, u64_xor _ _ (by omega) (by omega) (by omega) (by omega)]
  have e : (v / 9223372036854775808 % 18446744073709551616).toNat = 0 := by omega
  rw [e, Nat.xor_zero]
  unfold fold
  rw [if_pos h0]
  omega
theorem fold_neg {v : Int} (h : I64 v) (h0 : ¬ 0 ≤ v) : bits BinOp.xor IntKind.u64 (IntKind.u64.wrap (IntKind.u64.wrap v * 2)) (IntKind.u64.wrap (v / 9223372036854775808)) = (fold v : Nat) := by
  simp only [I64] at h
  rw [wrap_u64, wrap_u64, wrap_u64, u64_xor _ _ (by omega) (by omega) (by omega) (by omega)]
  have e : (v / 9223372036854775808 % 18446744073709551616).toNat = 18446744073709551615 := by omega
  rw [e, xor_all (by omega)]
  unfold fold
  rw [if_neg h0]
  omega
theorem and_odd (n : Nat) (h : U64 n) : bits BinOp.and IntKind.u64 (n : Int) 1 = ((n % 2 : Nat) : Int) := by
  have := u64_and_nat n 1 (by simp only [U64] at h; omega) (by omega)
  rw [show n &&& 1 = n % 2 from Nat.and_two_pow_sub_one_eq_mod n 1] at this
  exact this
theorem xor_i64_zero {a : Nat} (h : a < 9223372036854775808) : bits .xor .i64 (a : Int) 0 = (a : Int) := by
  show IntKind.i64.wrap ((BitVec.ofInt 64 (a : Int) ^^^ BitVec.ofInt 64 0).toNat : Int) = _
  rw [BitVec.toNat_xor, ofInt_u64 a (by omega)]
  have : (BitVec.ofInt 64 0).toNat = 0 := by decide
  rw [this, Nat.xor_zero]
  simp [IntKind.wrap, IntKind.bits, IntKind.signed]
  omega
theorem xor_i64_all {a : Nat} (h : a < 9223372036854775808) : bits .xor .i64 (a : Int) (-1) = -(a : Int) - 1 := by
  show IntKind.i64.wrap ((BitVec.ofInt 64 (a : Int) ^^^ BitVec.ofInt 64 (-1)).toNat : Int) = _
  rw [BitVec.toNat_xor, ofInt_u64 a (by omega)]
  have : (BitVec.ofInt 64 (-1)).toNat = 18446744073709551615 := by decide
  rw [this, xor_all (by omega)]
  simp [IntKind.wrap, IntKind.bits, IntKind.signed]
  omega
end Go.Proofs.Yteemncpmcfflmaa.Pl
