/-
  Plain law of the long division by two digits: no program in sight.
-/
import Derived.KernelRfl
namespace Go.Proofs.Ytfaahkjgbjcjgaa.Knuth

/-- What holds of a digit q and what is left, r, while it is guessed. -/
structure Guess (n y1 y0 d q r : Nat) : Prop where
  high : (n * 4294967296 + d) / (y1 * 4294967296 + y0) ≤ q
  low : q ≤ 4294967297
  rest : q * y1 + r = n

/-- A divisor of two digits, the highest bit set; what is divided is less than so many times it. -/
structure Fit (n y1 y0 d : Nat) : Prop where
  b1 : 2147483648 ≤ y1
  b1' : y1 < 4294967296
  b0 : y0 < 4294967296
  bd : d < 4294967296
  bn : n < y1 * 4294967296 + y0

theorem digit_lt {n y1 y0 d : Nat} (h : Fit n y1 y0 d) : (n * 4294967296 + d) / (y1 * 4294967296 + y0) < 4294967296 := by
  have := h.bn; have := h.bd
  rw [Nat.div_lt_iff_lt_mul (by have := h.b1; omega)]
  omega

theorem mul_split (q y1 y0 : Nat) : q * (y1 * 4294967296 + y0) = q * y1 * 4294967296 + q * y0 := by
  rw [Nat.mul_add, ← Nat.mul_assoc]

theorem guess_first {n y1 y0 d : Nat} (h : Fit n y1 y0 d) : Guess n y1 y0 d (n / y1) (n % y1) := by
  have hy := h.b1; have hd := h.bd; have hn := h.bn; have h0 := h.b0
  refine ⟨?_, ?_, ?_⟩
  · rw [Nat.le_div_iff_mul_le (by omega)]
    obtain ⟨Q, hQ⟩ : ∃ Q, (n * 4294967296 + d) / (y1 * 4294967296 + y0) = Q := ⟨_, rfl⟩
    rw [hQ]
    have h2 : Q * (y1 * 4294967296 + y0) ≤ n * 4294967296 + d := by rw [← hQ]; exact Nat.div_mul_le_self _ _
    rw [mul_split] at h2
    generalize Q * y1 = p at *
    generalize Q * y0 = p' at *
    omega
  · rcases Nat.lt_or_ge (n / y1) 4294967298 with h2 | h2
    · omega
    · exfalso
      have h3 : 4294967298 * y1 ≤ n / y1 * y1 := Nat.mul_le_mul_right _ h2
      have h4 : n / y1 * y1 ≤ n := Nat.div_mul_le_self _ _
      omega
  · rw [Nat.mul_comm]; exact Nat.div_add_mod n y1

theorem guess_test {n y1 y0 d q r : Nat} (h : Fit n y1 y0 d) (g : Guess n y1 y0 d q r) (ht : 4294967296 ≤ q ∨ 4294967296 * r + d < q * y0) :
    1 ≤ q ∧ Guess n y1 y0 d (q - 1) (r + y1) := by
  have hQ : (n * 4294967296 + d) / (y1 * 4294967296 + y0) < q := by
    rcases ht with ht | ht
    · exact Nat.lt_of_lt_of_le (digit_lt h) ht
    · rw [Nat.div_lt_iff_lt_mul (by have := h.b1; omega), mul_split]
      have := g.rest
      generalize q * y1 = p at *
      generalize q * y0 = p' at *
      omega
  have hh := g.high
  have h1 : 1 ≤ q := Nat.lt_of_le_of_lt (Nat.zero_le _) hQ
  refine ⟨h1, ⟨Nat.le_sub_one_of_lt hQ, by have := g.low; omega, ?_⟩⟩
  obtain ⟨k, rfl⟩ : ∃ k, q = k + 1 := ⟨q - 1, by omega⟩
  have := g.rest
  rw [Nat.add_mul] at this
  rw [Nat.add_sub_cancel]
  omega

theorem guess_done {n y1 y0 d q r : Nat} (h : Fit n y1 y0 d) (g : Guess n y1 y0 d q r) (ht : q * y0 ≤ 4294967296 * r + d) :
    q = (n * 4294967296 + d) / (y1 * 4294967296 + y0) := by
  refine Nat.le_antisymm ?_ g.high
  rw [Nat.le_div_iff_mul_le (by have := h.b1; omega), mul_split]
  have := g.rest
  generalize q * y1 = p at *
  generalize q * y0 = p' at *
  omega

theorem guess_far {n y1 y0 d q r : Nat} (h : Fit n y1 y0 d) (g : Guess n y1 y0 d q r) (hq : q ≤ 4294967296) (hr : 4294967296 ≤ r) :
    q = (n * 4294967296 + d) / (y1 * 4294967296 + y0) := by
  refine guess_done h g ?_
  have h1 : q * y0 ≤ 4294967296 * y0 := Nat.mul_le_mul_right _ hq
  have := h.b0
  omega

/-- Two digits, one behind the other. -/
theorem two_digits (n d e y B : Nat) (hy : 0 < y) :
    ((n * B + d) * B + e) / y = (n * B + d) / y * B + ((n * B + d) % y * B + e) / y ∧
    ((n * B + d) * B + e) % y = ((n * B + d) % y * B + e) % y := by
  have h := Nat.div_add_mod (n * B + d) y
  generalize (n * B + d) / y = Q at *
  generalize (n * B + d) % y = R at *
  have e1 : (n * B + d) * B + e = y * (Q * B) + (R * B + e) := by
    rw [← h, Nat.add_mul, Nat.mul_assoc, Nat.add_assoc]
  rw [e1]
  exact ⟨Nat.mul_add_div hy _ _, Nat.mul_add_mod _ _ _⟩

/-- Numbers that are moved up alike. -/
theorem moved (u y k : Nat) (hk : 0 < k) : u * k / (y * k) = u / y ∧ u * k % (y * k) / k = u % y :=
  ⟨Nat.mul_div_mul_right _ _ hk, by rw [Nat.mul_mod_mul_right, Nat.mul_div_cancel _ hk]⟩

end Go.Proofs.Ytfaahkjgbjcjgaa.Knuth
