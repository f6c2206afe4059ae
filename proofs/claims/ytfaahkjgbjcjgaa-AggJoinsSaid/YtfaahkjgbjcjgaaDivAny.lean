/-
  math/bits.Div64: for every two digits and every divisor above the first: quotient and remainder.
-/
import Derived.Test.YtfaahkjgbjcjgaaDiv
import Derived.Laws.Bits64b
namespace Go.Proofs.Ytfaahkjgbjcjgaa
open Go.RowKit Knuth
set_option linter.unusedVariables false

theorem bitLen_range {y : Nat} (h0 : 0 < y) (h1 : y < 2 ^ 64) : 1 ≤ Lib.bitLen y ∧ Lib.bitLen y ≤ 64 ∧ 2 ^ (Lib.bitLen y - 1) ≤ y ∧ y < 2 ^ Lib.bitLen y := by
  have hle := Lib.bitLen_le y 64 (by omega) h1
  have up : ∀ k, k < 64 → 2 ^ k ≤ y → k + 1 ≤ Lib.bitLen y := by
    intro k hk h
    rw [Lib.bitLen_shift k y h h1]
    have h2 : 0 < y / 2 ^ k := Nat.div_pos h (Nat.two_pow_pos k)
    rw [Lib.bitLen_half (y / 2 ^ k) (by omega) (Nat.lt_of_le_of_lt (Nat.div_le_self _ _) h1)]
    omega
  have hpos := up 0 (by omega) (by rw [Nat.pow_zero]; exact h0)
  refine ⟨by omega, hle, ?_, ?_⟩
  · rcases Nat.lt_or_ge y (2 ^ (Lib.bitLen y - 1)) with h | h
    · have := Lib.bitLen_le y (Lib.bitLen y - 1) (by omega) h
      omega
    · exact h
  · rcases Nat.lt_or_ge y (2 ^ Lib.bitLen y) with h | h
    · exact h
    · rcases Nat.lt_or_ge (Lib.bitLen y) 64 with h2 | h2
      · have := up _ h2 h; omega
      · have : Lib.bitLen y = 64 := by omega
        rw [this]; exact h1

theorem wrapNat {a : Nat} (h : a < 18446744073709551616) : IntKind.u64.wrap (a : Int) = (a : Int) := by rw [IntKind.wrap_u64]; omega
theorem wrapMod (a : Nat) : IntKind.u64.wrap (a : Int) = ((a % 18446744073709551616 : Nat) : Int) := by rw [IntKind.wrap_u64]; omega
/-- What is left of a digit, reckoned modulo 2^64. -/
theorem left_over {n d q y r : Nat} (h : n * 4294967296 + d = q * y + r) (hr : r < 18446744073709551616) :
    IntKind.u64.wrap (IntKind.u64.wrap (IntKind.u64.wrap ((n : Int) * 4294967296) + (d : Int)) - IntKind.u64.wrap ((q : Int) * (y : Int))) = (r : Int) := by
  have h1 : (q : Int) * (y : Int) = ((q * y : Nat) : Int) := (Int.natCast_mul q y).symm
  rw [h1]
  simp only [IntKind.wrap_u64]
  generalize q * y = p at *
  omega
theorem quo_nat {n y : Nat} (hn : n < 18446744073709551616) : IntKind.u64.wrap ((n : Int) / (y : Int)) = ((n / y : Nat) : Int) := by
  rw [show (n : Int) / (y : Int) = ((n / y : Nat) : Int) from (Int.natCast_ediv n y).symm]
  exact wrapNat (Nat.lt_of_le_of_lt (Nat.div_le_self _ _) hn)
theorem rem_nat {n y : Nat} (hn : n < 18446744073709551616) : IntKind.u64.wrap ((n : Int) - IntKind.u64.wrap (((n / y : Nat) : Int) * (y : Int))) = ((n % y : Nat) : Int) := by
  have h1 : ((n / y : Nat) : Int) * (y : Int) = ((n / y * y : Nat) : Int) := (Int.natCast_mul _ _).symm
  have h2 := Nat.div_add_mod n y
  rw [Nat.mul_comm] at h2
  rw [h1, wrapNat (by omega)]
  rw [show (n : Int) - ((n / y * y : Nat) : Int) = ((n % y : Nat) : Int) from by omega]
  exact wrapNat (by omega)
theorem mask_nat {a : Nat} (ha : a < 18446744073709551616) : bits .and .u64 (a : Int) 4294967295 = ((a % 4294967296 : Nat) : Int) := by
  have h := bits_and_u64_nat a 4294967295 ha (by omega)
  have e : a &&& 4294967295 = a % 4294967296 := Nat.and_two_pow_sub_one_eq_mod a 32
  rw [e] at h
  exact h
theorem half_nat (a : Nat) : (a : Int) / 4294967296 = ((a / 4294967296 : Nat) : Int) := by omega
theorem shl_nat (a s : Nat) : (a : Int) * 2 ^ s = ((a * 2 ^ s : Nat) : Int) := by rw [Int.natCast_mul, Int.natCast_pow]; rfl
theorem shr_nat (a s : Nat) : (a : Int) / 2 ^ s = ((a / 2 ^ s : Nat) : Int) := by rw [Int.natCast_ediv, Int.natCast_pow]; rfl
theorem or_nat {a x s : Nat} (hx : x < 2 ^ s) (h : a * 2 ^ s + x < 18446744073709551616) : bits .or .u64 ((a * 2 ^ s : Nat) : Int) (x : Int) = ((a * 2 ^ s + x : Nat) : Int) := by
  rw [bits_or_u64_nat _ _ (by omega) (by omega)]
  have := Nat.shiftLeft_add_eq_or_of_lt hx a
  rw [Nat.shiftLeft_eq] at this
  rw [this]

theorem split_eq {n d e0 u : Nat} (hd : u / 4294967296 = d) (he : u % 4294967296 = e0) : (n * 4294967296 + d) * 4294967296 + e0 = n * 18446744073709551616 + u := by
  have h1 : u = d * 4294967296 + e0 := by omega
  rw [h1, Nat.add_mul, Nat.mul_assoc, Nat.add_assoc]

set_option maxRecDepth 100000 in
theorem div64_any (hi lo y : Nat) (hhi : 0 < hi) (hy : hi < y) (hyM : y < 18446744073709551616) (hlo : lo < 18446744073709551616) (w : World) :
    Calls Try.prog 19 #[.int .u64 hi, .int .u64 lo, .int .u64 y] w fun e w' => e = .returned (.tuple #[.int .u64 ((hi * 18446744073709551616 + lo) / y : Nat), .int .u64 ((hi * 18446744073709551616 + lo) % y : Nat)]) ∧ w = w' := by
  obtain ⟨hb1, hb2, hb3, hb4⟩ := bitLen_range (y := y) (by omega) hyM
  obtain ⟨b, hb⟩ : ∃ b, Lib.bitLen y = b := ⟨_, rfl⟩
  rw [hb] at hb1 hb2 hb3 hb4
  obtain ⟨s, hs⟩ : ∃ s, 64 - b = s := ⟨_, rfl⟩
  have hs63 : s ≤ 63 := by omega
  have hbs : b = 64 - s := by omega
  have hP : 2 ^ (64 - s) * 2 ^ s = 18446744073709551616 := by rw [← Nat.pow_add, show 64 - s + s = 64 from by omega]
  have hP2 : 2 ^ (64 - s - 1) * 2 ^ s = 9223372036854775808 := by rw [← Nat.pow_add, show 64 - s - 1 + s = 63 from by omega]
  have hk0 : 0 < 2 ^ s := Nat.two_pow_pos s
  obtain ⟨K, hK⟩ : ∃ K, 2 ^ s = K := ⟨_, rfl⟩
  rw [hbs] at hb3 hb4
  have hyl : 9223372036854775808 ≤ y * 2 ^ s := by rw [← hP2]; exact Nat.mul_le_mul_right _ hb3
  have hyu : y * 2 ^ s < 18446744073709551616 := by rw [← hP]; exact Nat.mul_lt_mul_of_pos_right hb4 hk0
  have hlow : lo / 2 ^ (64 - s) < 2 ^ s := by rw [Nat.div_lt_iff_lt_mul (Nat.two_pow_pos _), Nat.mul_comm, hP]; exact hlo
  have hhs : (hi + 1) * 2 ^ s ≤ y * 2 ^ s := Nat.mul_le_mul_right _ hy
  rw [Nat.add_mul, Nat.one_mul] at hhs
  obtain ⟨yS, hyS⟩ : ∃ x, y * 2 ^ s = x := ⟨_, rfl⟩
  obtain ⟨n, hn⟩ : ∃ x, hi * 2 ^ s + lo / 2 ^ (64 - s) = x := ⟨_, rfl⟩
  obtain ⟨u, hu⟩ : ∃ x, lo * 2 ^ s % 18446744073709551616 = x := ⟨_, rfl⟩
  have hnyS : n < yS := by omega
  have hu64 : u < 18446744073709551616 := by omega
  have hwhole : (hi * 18446744073709551616 + lo) * 2 ^ s = n * 18446744073709551616 + u := by
    have h1 : lo * 2 ^ s / 18446744073709551616 = lo / 2 ^ (64 - s) := by rw [← hP]; exact Nat.mul_div_mul_right _ _ hk0
    have h2 := Nat.div_add_mod (lo * 2 ^ s) 18446744073709551616
    rw [h1, hu] at h2
    rw [← hn, Nat.add_mul, Nat.add_mul, ← h2, Nat.mul_right_comm, Nat.mul_comm 18446744073709551616, Nat.add_assoc]
  obtain ⟨y1, hy1⟩ : ∃ x, yS / 4294967296 = x := ⟨_, rfl⟩
  obtain ⟨y0, hy0⟩ : ∃ x, yS % 4294967296 = x := ⟨_, rfl⟩
  obtain ⟨d, hd⟩ : ∃ x, u / 4294967296 = x := ⟨_, rfl⟩
  obtain ⟨e0, he⟩ : ∃ x, u % 4294967296 = x := ⟨_, rfl⟩
  have hyy : y1 * 4294967296 + y0 = yS := by omega
  have F1 : Fit n y1 y0 d := ⟨by omega, by omega, by omega, by omega, by omega⟩
  obtain ⟨n2, hn2⟩ : ∃ x, (n * 4294967296 + d) % yS = x := ⟨_, rfl⟩
  have hn2y : n2 < yS := by rw [← hn2]; exact Nat.mod_lt _ (by omega)
  have F2 : Fit n2 y1 y0 e0 := ⟨by omega, by omega, by omega, by omega, by omega⟩
  obtain ⟨R', hR'⟩ : ∃ x, (n2 * 4294967296 + e0) % yS = x := ⟨_, rfl⟩
  have hRy : R' < yS := by rw [← hR']; exact Nat.mod_lt _ (by omega)
  obtain ⟨Q1, hQ1⟩ : ∃ x, (n * 4294967296 + d) / yS = x := ⟨_, rfl⟩
  obtain ⟨Q2, hQ2⟩ : ∃ x, (n2 * 4294967296 + e0) / yS = x := ⟨_, rfl⟩
  have hQ1B : Q1 < 4294967296 := by have := digit_lt F1; rw [hyy, hQ1] at this; exact this
  have hQ2B : Q2 < 4294967296 := by have := digit_lt F2; rw [hyy, hQ2] at this; exact this
  have e1 : n * 4294967296 + d = Q1 * yS + n2 := by have := Nat.div_add_mod (n * 4294967296 + d) yS; rw [hQ1, hn2, Nat.mul_comm] at this; exact this.symm
  have e2 : n2 * 4294967296 + e0 = Q2 * yS + R' := by have := Nat.div_add_mod (n2 * 4294967296 + e0) yS; rw [hQ2, hR', Nat.mul_comm] at this; exact this.symm
  have hdig := two_digits n d e0 yS 4294967296 (by omega)
  have hsplit : (n * 4294967296 + d) * 4294967296 + e0 = n * 18446744073709551616 + u := split_eq hd he
  rw [hsplit, ← hwhole, ← hyS, (moved _ y (2 ^ s) hk0).1, hyS, hQ1, hn2, hQ2, hR', ← hyS] at hdig
  have hrem := (moved (hi * 18446744073709551616 + lo) y (2 ^ s) hk0).2
  rw [hdig.2] at hrem
  rw [hdig.1, ← hrem]
  refine div64_walk hi lo y s yS y1 y0 n d e0 (hi * 2 ^ s) u (n / y1) (n % y1) n2 (n2 / y1) (n2 % y1) Q1 Q2 (Q1 * 4294967296 + Q2) R' (R' / 2 ^ s) w hhi hy (Lib.hid fun wx => ?_) hs63 F1.b1' F1.b0 F1.bd F2.bd
    ?_ (by rw [half_nat, hy1]) (by rw [mask_nat (by omega), hy0]) ?_ ?_ ?_ (by rw [half_nat, hd]) (by rw [mask_nat hu64, he]) (by have := F1.b1; omega)
    (quo_nat (by omega)) (rem_nat (by omega)) (Lib.hid (guess_first F1)) (Lib.hid (Nat.lt_trans (Nat.mod_lt _ (by have := F1.b1; omega)) F1.b1')) (Lib.hid F1) (Lib.hid (by rw [hyy, hQ1]))
    (left_over e1 (by omega)) (quo_nat (by omega)) (rem_nat (by omega)) (Lib.hid (guess_first F2)) (Lib.hid (Nat.lt_trans (Nat.mod_lt _ (by have := F1.b1; omega)) F1.b1')) (Lib.hid F2) (Lib.hid (by rw [hyy, hQ2]))
    (by simp only [IntKind.wrap_u64]; omega) (left_over e2 (by omega)) (shr_nat R' s)
  · refine (bits_LeadingZeros64 (y : Int) wx (by omega) (by omega)).mono fun e w' h => ⟨?_, h.2.symm⟩
    rw [h.1, Int.toNat_natCast, hb, ← hs, Int.ofNat_sub hb2]
    rfl
  · rw [shl_nat, hyS]; exact wrapNat (by omega)
  · rw [shl_nat]; exact wrapNat (by omega)
  · rw [shr_nat, or_nat hlow (by omega), hn]
  · rw [shl_nat, wrapMod, hu]
end Go.Proofs.Ytfaahkjgbjcjgaa
