/-
  Plain facts on what samples come to: no program in sight.
-/
import Derived.KernelRfl
import Derived.WalkKit
namespace Go.Proofs.Ytfaahkjgbjcjgaa
open Go.RowKit

/-- What samples come to. -/
structure Ag where
  n : Int
  ft : Int
  fv : Int
  lt : Int
  lv : Int
  mi : Int
  ma : Int
  hi : Int
  lo : Int

def Ag.zero : Ag := ⟨0, 0, 0, 0, 0, 0, 0, 0, 0⟩
def Ag.one (t v : Int) : Ag := ⟨1, t, v, t, v, v, v, 0, v⟩
/-- A sum of two numbers and a carry: what stays, and what is carried. -/
def addLo (x y c : Int) : Int := (x + y + c) % 18446744073709551616
def addHi (x y c : Int) : Int := (x + y + c) / 18446744073709551616
/-- A number of 64 bits. -/
def U64 (v : Int) : Prop := 0 ≤ v ∧ v < 18446744073709551616

theorem u64_addLo (x y c : Int) : U64 (addLo x y c) := by simp only [U64, addLo]; omega
theorem addHi_bit {x y c : Int} (hx : U64 x) (hy : U64 y) (h0 : 0 ≤ c) (h1 : c ≤ 1) : 0 ≤ addHi x y c ∧ addHi x y c ≤ 1 := by
  simp only [U64, addHi] at *; omega
theorem wrap_add (x y : Int) : IntKind.u64.wrap (x + y) = addLo x y 0 := by rw [IntKind.wrap_u64]; simp only [addLo, Int.add_zero]
theorem wrap_wrap_add (x y : Int) : IntKind.u64.wrap (addLo x y 0 + 1) = addLo x y 1 := by rw [IntKind.wrap_u64]; simp only [addLo]; omega
theorem carry_yes {x y : Int} (hx : U64 x) (hy : U64 y) (h : addHi x y 0 = 1) : addLo x y 0 < x := by simp only [U64, addLo, addHi] at *; omega
theorem carry_no {x y : Int} (hx : U64 x) (hy : U64 y) (h : addHi x y 0 = 0) : ¬ addLo x y 0 < x := by simp only [U64, addLo, addHi] at *; omega

/-- The halves joined. -/
def Ag.comb (a b : Ag) : Ag := ⟨addLo a.n b.n 0, a.ft, a.fv, b.lt, b.lv, min a.mi b.mi, max a.ma b.ma, addLo a.hi b.hi (addHi a.lo b.lo 0), addLo a.lo b.lo 0⟩
/-- What Join answers: a number of an error, and what they come to. -/
def joinE (a b : Ag) : Int := if a.n = 0 then 0 else if b.n = 0 then 0 else if b.ft ≤ a.lt then 240 else 0
def joinV (a b : Ag) : Ag := if a.n = 0 then b else if b.n = 0 then a else if b.ft ≤ a.lt then Ag.zero else Ag.comb a b

/-- All numbers are numbers of 64 bits. -/
structure Ag.Ok (a : Ag) : Prop where
  n : U64 a.n
  fv : U64 a.fv
  lv : U64 a.lv
  mi : U64 a.mi
  ma : U64 a.ma
  hi : U64 a.hi
  lo : U64 a.lo
  ft : -9223372036854775808 ≤ a.ft ∧ a.ft ≤ 9223372036854775807
  lt : -9223372036854775808 ≤ a.lt ∧ a.lt ≤ 9223372036854775807
end Go.Proofs.Ytfaahkjgbjcjgaa
