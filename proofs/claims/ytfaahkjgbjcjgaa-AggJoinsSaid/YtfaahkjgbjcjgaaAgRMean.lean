/-
  Mean, the reference's: bit by bit.
-/
import Derived.Test.YtfaahkjgbjcjgaaAgKnown
import Derived.Laws.Bits64b
namespace Go.Proofs.Ytfaahkjgbjcjgaa
open Go.RowKit
set_option linter.unusedVariables false

/-- What is left over, and what has come out, where j bits are still to come. -/
def Half (N T j R Q : Nat) : Prop := R = T / 2 ^ j % N ∧ Q = T / 2 ^ j / N
theorem half_start {H O N : Nat} (hH : H < N) (hO : O < 18446744073709551616) : Half N (H * 18446744073709551616 + O) 64 H 0 := by
  have e : (H * 18446744073709551616 + O) / 2 ^ 64 = H := by
    have : (2 : Nat) ^ 64 = 18446744073709551616 := by decide
    omega
  unfold Half
  rw [e, Nat.mod_eq_of_lt hH, Nat.div_eq_of_lt hH]
  exact ⟨rfl, rfl⟩
theorem half_end {N T R Q : Nat} (h : Half N T 0 R Q) : Q = T / N := by rw [h.2, Nat.pow_zero, Nat.div_one]
theorem half_bits {H O m : Nat} (hm : m ≤ 63) : (H * 18446744073709551616 + O) / 2 ^ m = 2 * ((H * 18446744073709551616 + O) / 2 ^ (m + 1)) + O / 2 ^ m % 2 := by
  have h1 : (H * 18446744073709551616 + O) / 2 ^ (m + 1) = (H * 18446744073709551616 + O) / 2 ^ m / 2 := by rw [Nat.pow_succ, Nat.div_div_eq_div_mul]
  have h2 : (18446744073709551616 : Nat) = 2 ^ (63 - m) * 2 * 2 ^ m := by
    rw [← Nat.pow_succ, ← Nat.pow_add, show (63 - m).succ + m = 64 from by omega]
  have h3 : (H * 18446744073709551616 + O) / 2 ^ m = H * 2 ^ (63 - m) * 2 + O / 2 ^ m := by
    have hp := Nat.two_pow_pos m
    have e : H * 18446744073709551616 = H * 2 ^ (63 - m) * 2 * 2 ^ m := by
      have := congrArg (H * ·) h2
      simp only [← Nat.mul_assoc] at this
      exact this
    rw [e, Nat.add_comm, Nat.add_mul_div_right _ _ hp, Nat.add_comm]
  rw [h1, h3]
  omega
/-- What Mean knows of its numbers. -/
def Fair (H O N : Nat) : Prop := H < N ∧ N < 18446744073709551616 ∧ O < 18446744073709551616

theorem half_low {H O N m R Q b S : Nat} (hf : Fair H O N) (hm : m ≤ 63) (h : Half N (H * 18446744073709551616 + O) (m + 1) R Q) (hb : O / 2 ^ m % 2 = b) (hS : 2 * R + b = S) :
    R < N ∧ (N ≤ S → Half N (H * 18446744073709551616 + O) m (S - N) (2 * Q + 1) ∧ 2 * Q + 1 < 18446744073709551616) ∧ (S < N → Half N (H * 18446744073709551616 + O) m S (2 * Q) ∧ 2 * Q < 18446744073709551616) := by
  have hbits := half_bits (H := H) (O := O) hm
  obtain ⟨h1, h2, h3⟩ := hf
  have hN : 0 < N := by omega
  obtain ⟨V, hV⟩ : ∃ V, (H * 18446744073709551616 + O) / 2 ^ (m + 1) = V := ⟨_, rfl⟩
  obtain ⟨V', hV'⟩ : ∃ V', (H * 18446744073709551616 + O) / 2 ^ m = V' := ⟨_, rfl⟩
  unfold Half at h ⊢
  rw [hV] at h hbits
  rw [hV', hb] at hbits
  rw [hV']
  have hR : R < N := by rw [h.1]; exact Nat.mod_lt _ hN
  have hVe : V = N * Q + R := by rw [h.1, h.2, Nat.div_add_mod]
  have hT : V' / N < 18446744073709551616 := by
    have ht : H * 18446744073709551616 + O < N * 18446744073709551616 := by
      have : (H + 1) * 18446744073709551616 ≤ N * 18446744073709551616 := Nat.mul_le_mul_right _ h1
      omega
    have hle : V' ≤ H * 18446744073709551616 + O := by rw [← hV']; exact Nat.div_le_self _ _
    exact Nat.div_lt_of_lt_mul (by omega)
  refine ⟨hR, fun hs => ?_, fun hs => ?_⟩
  · have e : V' = N * (2 * Q + 1) + (S - N) := by
      have : N * (2 * Q + 1) = 2 * (N * Q) + N := by rw [Nat.mul_add, Nat.mul_one, Nat.mul_left_comm]
      omega
    have hlt : S - N < N := by omega
    have hd : V' / N = 2 * Q + 1 := by rw [e, Nat.mul_add_div hN, Nat.div_eq_of_lt hlt, Nat.add_zero]
    have hmo : V' % N = S - N := by rw [e, Nat.mul_add_mod, Nat.mod_eq_of_lt hlt]
    exact ⟨⟨hmo.symm, hd.symm⟩, by omega⟩
  · have e : V' = N * (2 * Q) + S := by
      have : N * (2 * Q) = 2 * (N * Q) := by rw [Nat.mul_left_comm]
      omega
    have hd : V' / N = 2 * Q := by rw [e, Nat.mul_add_div hN, Nat.div_eq_of_lt hs, Nat.add_zero]
    have hmo : V' % N = S := by rw [e, Nat.mul_add_mod, Nat.mod_eq_of_lt hs]
    exact ⟨⟨hmo.symm, hd.symm⟩, by omega⟩

theorem bit_one {O m : Nat} (hO : O < 18446744073709551616) : bits .and .u64 ((O : Int) / 2 ^ m) 1 = ((O / 2 ^ m % 2 : Nat) : Int) := by
  have e : (O : Int) / 2 ^ m = ((O / 2 ^ m : Nat) : Int) := by rw [Int.natCast_ediv, Int.natCast_pow]; rfl
  have hle : O / 2 ^ m ≤ O := Nat.div_le_self _ _
  rw [e]
  have h := bits_and_u64_nat (O / 2 ^ m) 1 (by omega) (by omega)
  have e2 : O / 2 ^ m &&& 1 = O / 2 ^ m % 2 := Nat.and_two_pow_sub_one_eq_mod _ 1
  rw [e2] at h
  exact h

theorem half_yes {H O N m R Q : Nat} (hf : Fair H O N) (hm : m ≤ 63) (h : Half N (H * 18446744073709551616 + O) (m + 1) R Q)
    (ht : ((R : Int) / 9223372036854775808 == 1) = true ∨ (N : Int) ≤ IntKind.u64.wrap (IntKind.u64.wrap (2 * (R : Int)) + bits BinOp.and IntKind.u64 ((O : Int) / 2 ^ m) 1)) :
    ∃ R' Q' : Nat, IntKind.u64.wrap (IntKind.u64.wrap (IntKind.u64.wrap (2 * (R : Int)) + bits BinOp.and IntKind.u64 ((O : Int) / 2 ^ m) 1) - (N : Int)) = (R' : Int) ∧
      IntKind.u64.wrap (IntKind.u64.wrap (2 * (Q : Int)) + 1) = (Q' : Int) ∧ Half N (H * 18446744073709551616 + O) m R' Q' := by
  obtain ⟨b, hb⟩ : ∃ b, O / 2 ^ m % 2 = b := ⟨_, rfl⟩
  obtain ⟨hR, hy, _⟩ := half_low hf hm h hb rfl
  rw [bit_one hf.2.2, hb] at ht ⊢
  obtain ⟨h1, h2, h3⟩ := hf
  have hb2 : b < 2 := by omega
  simp only [IntKind.wrap_u64] at ht ⊢
  have hs : N ≤ 2 * R + b := by
    rcases ht with ht | ht
    · have := eq_of_beq ht; omega
    · omega
  have hq := (hy hs).2
  exact ⟨2 * R + b - N, 2 * Q + 1, by omega, by omega, (hy hs).1⟩
theorem half_no {H O N m R Q : Nat} (hf : Fair H O N) (hm : m ≤ 63) (h : Half N (H * 18446744073709551616 + O) (m + 1) R Q)
    (ht : ((R : Int) / 9223372036854775808 == 1) = false ∧ IntKind.u64.wrap (IntKind.u64.wrap (2 * (R : Int)) + bits BinOp.and IntKind.u64 ((O : Int) / 2 ^ m) 1) < (N : Int)) :
    ∃ R' Q' : Nat, IntKind.u64.wrap (IntKind.u64.wrap (2 * (R : Int)) + bits BinOp.and IntKind.u64 ((O : Int) / 2 ^ m) 1) = (R' : Int) ∧
      IntKind.u64.wrap (2 * (Q : Int)) = (Q' : Int) ∧ Half N (H * 18446744073709551616 + O) m R' Q' := by
  obtain ⟨b, hb⟩ : ∃ b, O / 2 ^ m % 2 = b := ⟨_, rfl⟩
  obtain ⟨hR, _, hn⟩ := half_low hf hm h hb rfl
  rw [bit_one hf.2.2, hb] at ht ⊢
  obtain ⟨h1, h2, h3⟩ := hf
  have hb2 : b < 2 := by omega
  simp only [IntKind.wrap_u64] at ht ⊢
  have ht1 : ¬ (R : Int) / 9223372036854775808 = 1 := by
    intro e; rw [e] at ht; exact absurd ht.1 (by decide)
  have hs : 2 * R + b < N := by have := ht.2; omega
  have hq := (hn hs).2
  exact ⟨2 * R + b, 2 * Q, by omega, by omega, (hn hs).1⟩

set_option maxRecDepth 100000 in
set_option maxHeartbeats 2000000 in
theorem rmean_walk (H O N : Nat) (a : Ag) (w : World) (hf : Fair H O N) :
    Calls Try.prog 14 #[.agg #[.int .u64 (N : Int), .int .i64 a.ft, .int .u64 a.fv, .int .i64 a.lt, .int .u64 a.lv, .int .u64 a.mi, .int .u64 a.ma, .int .u64 (H : Int), .int .u64 (O : Int)]] w fun e w' => e = .returned (.tuple #[.int .u64 (((H * 18446744073709551616 + O) / N : Nat) : Int), .bool true]) ∧ Below w.heap.size w w' := by
  have t1 : ((N : Int) == 0) = false := beq_eq_false_iff_ne.2 (by have := hf.1; omega)
  have t2 : decide (N ≤ H) = false := decide_eq_false (by have := hf.1; omega)
  have HST := Lib.hid (half_start hf.1 hf.2.2)
  have HF := Lib.hid hf
  obtain ⟨TT, hT⟩ : ∃ T, H * 18446744073709551616 + O = T := ⟨_, rfl⟩
  rw [hT] at HST
  rw [hT]
  have HT := Lib.hid hT
  clear hf hT
  go_enter Try.func14, Try.ntmps14
  go_wp2_with fail
  go_loop [4, 5, 6] (fun s4 s5 s6 => ∃ (R Q j : Nat) (I : Int), s4 = .int .u64 (R : Int) ∧ s5 = .int .u64 (Q : Int) ∧ s6 = .int .i64 I ∧ j ≤ 64 ∧ I + 1 = (j : Int) ∧ Hid (Half N TT j R Q)) (fun _ _ s6 => (intOf s6 + 1).toNat)
  case atStart => exact ⟨H, 0, 64, 63, rfl, rfl, rfl, Nat.le_refl _, rfl, HST⟩
  case round =>
    obtain ⟨R, Q, j, I, rfl, rfl, rfl, hj, hI, HH⟩ := hrel
    by_cases h0 : j = 0
    · subst h0
      obtain rfl : I = -1 := by omega
      have hq := half_end HH.out
      subst hq
      clear hI
      go_wp2_with fail
      go_ret2
      exact ⟨rfl, (Below.refl _ _).alloc (Nat.le_refl _) _⟩
    · obtain ⟨m, rfl⟩ : ∃ m, j = m + 1 := ⟨j - 1, by omega⟩
      obtain rfl : I = (m : Int) := by omega
      have hm : (m : Int) ≤ 63 := by omega
      have HM := Lib.hid (show m ≤ 63 by omega)
      clear hI h0
      have d0 : decide ((m : Int) < 0) = false := by simp
      have hye := HH.out
      rw [← HT.out] at hye
      have HY := Lib.hid (fun ht => half_yes HF.out HM.out hye ht)
      have HNO := Lib.hid (fun ht => half_no HF.out HM.out hye ht)
      rw [HT.out] at HY HNO
      clear hye
      go_wp2_with fail
      · rename_i ht
        obtain ⟨R', Q', e1, e2, hh⟩ := HY.out (.inl (beq_iff_eq.2 ht))
        exact ⟨⟨R', Q', m, (m : Int) - 1, congrArg _ e1, congrArg _ e2, rfl, by omega, by omega, Lib.hid hh⟩, by simp [intOf]⟩
      · rename_i ht
        obtain ⟨R', Q', e1, e2, hh⟩ := HY.out ht
        exact ⟨⟨R', Q', m, (m : Int) - 1, congrArg _ e1, congrArg _ e2, rfl, by omega, by omega, Lib.hid hh⟩, by simp [intOf]⟩
      · rename_i ht
        obtain ⟨R', Q', e1, e2, hh⟩ := HNO.out ht
        exact ⟨⟨R', Q', m, (m : Int) - 1, congrArg _ e1, congrArg _ e2, rfl, by omega, by omega, Lib.hid hh⟩, by simp [intOf]⟩

set_option maxHeartbeats 1000000 in
theorem rmean_none (a : Ag) (w : World) (h : a.n = 0 ∨ a.n ≤ a.hi) :
    Calls Try.prog 14 #[.agg #[.int .u64 a.n, .int .i64 a.ft, .int .u64 a.fv, .int .i64 a.lt, .int .u64 a.lv, .int .u64 a.mi, .int .u64 a.ma, .int .u64 a.hi, .int .u64 a.lo]] w fun e w' => e = .returned (.tuple #[.int .u64 0, .bool false]) ∧ Below w.heap.size w w' := by
  by_cases h0 : a.n = 0
  · have t1 : (a.n == 0) = true := beq_iff_eq.2 h0
    clear h h0
    go_enter Try.func14, Try.ntmps14
    go_wp2_with fail
    go_ret2
    exact ⟨rfl, (Below.refl _ _).alloc (Nat.le_refl _) _⟩
  · have t1 : (a.n == 0) = false := beq_eq_false_iff_ne.2 h0
    have t2 : decide (a.n ≤ a.hi) = true := decide_eq_true (by omega)
    clear h h0
    go_enter Try.func14, Try.ntmps14
    go_wp2_with fail
    go_ret2
    exact ⟨rfl, (Below.refl _ _).alloc (Nat.le_refl _) _⟩
end Go.Proofs.Ytfaahkjgbjcjgaa
