/-
  math/bits.Div64: what it answers: the library's own text is walked, its two digits are guessed as Knuth does.
-/
import Derived.Test.YtfaahkjgbjcjgaaDivA
import Derived.Test.YtfaahkjgbjcjgaaDivPl
import Derived.WalkKit
import Derived.WalkSpells
import Derived.Lib.Hide
import Derived.RegionTactic
import Derived.Deep.DeepCutAuto
import Derived.Deep.CutBlock
namespace Go.Proofs.Ytfaahkjgbjcjgaa
open Go.RowKit Knuth
set_option linter.unusedVariables false

theorem sub_one (k : Nat) (h : k < 18446744073709551616) : IntKind.u64.wrap (k : Int) = (k : Int) := by rw [IntKind.wrap_u64]; omega
theorem add_small (r y : Nat) (hr : r < 4294967296) (hy : y < 4294967296) : IntKind.u64.wrap ((r : Int) + (y : Int)) = ((r + y : Nat) : Int) := by rw [IntKind.wrap_u64]; omega
theorem mul_small (q y p : Nat) (hq : q < 4294967296) (hy : y < 4294967296) (hp : q * y = p) : IntKind.u64.wrap ((q : Int) * (y : Int)) = (p : Int) := by
  have h1 : q * y ≤ 4294967295 * 4294967295 := Nat.mul_le_mul (by omega) (by omega)
  have h2 : (q : Int) * (y : Int) = (p : Int) := by rw [← hp]; exact (Int.natCast_mul q y).symm
  rw [h2, IntKind.wrap_u64]; omega
theorem mul_base (r b : Nat) (hr : r < 4294967296) (hb : 4294967296 * r = b) : IntKind.u64.wrap (4294967296 * (r : Int)) = (b : Int) := by rw [IntKind.wrap_u64]; omega
theorem add_base (b d c : Nat) (hb : b ≤ 18446744069414584320) (hd : d < 4294967296) (hc : b + d = c) : IntKind.u64.wrap ((b : Int) + (d : Int)) = (c : Int) := by rw [IntKind.wrap_u64]; omega

set_option maxRecDepth 100000 in
set_option maxHeartbeats 2000000 in
theorem div64_walk (hi lo y s yS y1 y0 n d e0 hS u q1 r1 n2 q2 r2' Q1 Q2 QQ R' RR : Nat) (w : World) (hhi : 0 < hi) (hy : hi < y)
    (HLZ : Hid (∀ wx, Calls Try.prog 20 #[.int .u64 (y : Int)] wx fun e w' => e = .returned (.int .i64 (s : Int)) ∧ wx = w')) (hs63 : s ≤ 63)
    (hy1' : y1 < 4294967296) (hy0 : y0 < 4294967296) (hd : d < 4294967296) (he : e0 < 4294967296)
    (f1 : IntKind.u64.wrap ((y : Int) * 2 ^ s) = (yS : Int)) (f2 : (yS : Int) / 4294967296 = (y1 : Int)) (f3 : bits .and .u64 (yS : Int) 4294967295 = (y0 : Int)) (f4 : IntKind.u64.wrap ((hi : Int) * 2 ^ s) = (hS : Int))
    (f5 : bits .or .u64 (hS : Int) ((lo : Int) / 2 ^ (64 - s)) = (n : Int)) (f6 : IntKind.u64.wrap ((lo : Int) * 2 ^ s) = (u : Int)) (f7 : (u : Int) / 4294967296 = (d : Int)) (f8 : bits .and .u64 (u : Int) 4294967295 = (e0 : Int)) (f9 : ¬ (y1 : Int) = 0)
    (f10 : IntKind.u64.wrap ((n : Int) / (y1 : Int)) = (q1 : Int)) (f11 : IntKind.u64.wrap ((n : Int) - IntKind.u64.wrap ((q1 : Int) * (y1 : Int))) = (r1 : Int))
    (Hq1 : Hid (Guess n y1 y0 d q1 r1)) (Hq1r : Hid (r1 < 4294967296)) (HF1 : Hid (Fit n y1 y0 d)) (HQ1 : Hid (Q1 = (n * 4294967296 + d) / (y1 * 4294967296 + y0)))
    (f12 : IntKind.u64.wrap (IntKind.u64.wrap (IntKind.u64.wrap ((n : Int) * 4294967296) + (d : Int)) - IntKind.u64.wrap ((Q1 : Int) * (yS : Int))) = (n2 : Int))
    (f13 : IntKind.u64.wrap ((n2 : Int) / (y1 : Int)) = (q2 : Int)) (f14 : IntKind.u64.wrap ((n2 : Int) - IntKind.u64.wrap ((q2 : Int) * (y1 : Int))) = (r2' : Int))
    (Hq2 : Hid (Guess n2 y1 y0 e0 q2 r2')) (Hq2r : Hid (r2' < 4294967296)) (HF2 : Hid (Fit n2 y1 y0 e0)) (HQ2 : Hid (Q2 = (n2 * 4294967296 + e0) / (y1 * 4294967296 + y0)))
    (f15 : IntKind.u64.wrap (IntKind.u64.wrap ((Q1 : Int) * 4294967296) + (Q2 : Int)) = (QQ : Int))
    (f16 : IntKind.u64.wrap (IntKind.u64.wrap (IntKind.u64.wrap ((n2 : Int) * 4294967296) + (e0 : Int)) - IntKind.u64.wrap ((Q2 : Int) * (yS : Int))) = (R' : Int)) (f17 : (R' : Int) / 2 ^ s = (RR : Int)) :
    Calls Try.prog 19 #[.int .u64 hi, .int .u64 lo, .int .u64 y] w fun e w' => e = .returned (.tuple #[.int .u64 QQ, .int .u64 RR]) ∧ w = w' := by
  have t1 : ((y : Int) == 0) = false := beq_eq_false_iff_ne.2 (by omega)
  have t2 : decide (y ≤ hi) = false := decide_eq_false (by omega)
  have t3 : ((hi : Int) == 0) = false := beq_eq_false_iff_ne.2 (by omega)
  clear hhi hy
  go_enter Try.func19, Try.ntmps19
  go_wp2_with fail
  refine (HLZ.out _).mono ?_
  rintro e w1 ⟨rfl, rfl⟩
  go_upto_block 0 with fail
  go_cut [15] (fun sq wx => sq = .int .u64 (Q1 : Nat) ∧ wx = w)
  case first =>
    go_wp2_with fail
    go_loop [15, 16] (fun sq sr => ∃ q r : Nat, sq = .int .u64 q ∧ sr = .int .u64 r ∧ Hid (Guess n y1 y0 d q r) ∧ r < 4294967296) (fun sq _ => (intOf sq).toNat)
    case atStart => exact ⟨q1, r1, rfl, rfl, Hq1.out, Hq1r.out⟩
    case round =>
      obtain ⟨q, r, rfl, rfl, HG, hrB⟩ := hrel
      have HLOW := Lib.hid HG.out.low
      by_cases hq : 4294967296 ≤ q
      · have T := guess_test HF1.out HG.out (.inl hq)
        obtain ⟨k, rfl⟩ : ∃ k, q = k + 1 := ⟨q - 1, by omega⟩
        have HT := Lib.hid T.2
        rw [Nat.add_sub_cancel] at HT
        have b1 : decide ((4294967296 : Int) ≤ (k : Int) + 1) = true := decide_eq_true (by omega)
        have b2 : decide (4294967296 ≤ k + 1) = true := decide_eq_true hq
        obtain ⟨r2, hr2⟩ : ∃ r2, r + y1 = r2 := ⟨_, rfl⟩
        rw [hr2] at HT
        have b3 := sub_one k (by have := HLOW.out; omega)
        have b4 := add_small r y1 hrB hy1'
        rw [hr2] at b4
        have HK := Lib.hid (show k ≤ 4294967296 by have := HLOW.out; omega)
        clear hq T HLOW HG hr2
        by_cases hr : 4294967296 ≤ r2
        · have b5 : decide ((4294967296 : Int) ≤ (r2 : Int)) = true := decide_eq_true (by omega)
          have HQ := Lib.hid (guess_far HF1.out HT.out HK.out hr)
          clear hr
          go_wp2_with fail
          go_meet
          exact ⟨by rw [HQ.out, HQ1.out], rfl⟩
        · have b5 : decide ((4294967296 : Int) ≤ (r2 : Int)) = false := decide_eq_false (by omega)
          go_wp2_with fail
          go_round
          case rel => exact ⟨k, r2, rfl, rfl, HT, by omega⟩
          case measure => simp [intOf]
      · have b1 : decide ((4294967296 : Int) ≤ (q : Int)) = false := decide_eq_false (by omega)
        obtain ⟨p, hp⟩ : ∃ p, q * y0 = p := ⟨_, rfl⟩
        obtain ⟨b, hb⟩ : ∃ b, 4294967296 * r = b := ⟨_, rfl⟩
        obtain ⟨c, hc⟩ : ∃ c, b + d = c := ⟨_, rfl⟩
        have c1 := mul_small q y0 p (by omega) hy0 hp
        have c2 := mul_base r b hrB hb
        have c3 := add_base b d c (by omega) (by omega) hc
        by_cases ht : c < p
        · have T := guess_test HF1.out HG.out (.inr (by rw [hb, hc, hp]; exact ht))
          have b6 : decide (c < p) = true := decide_eq_true ht
          obtain ⟨k, rfl⟩ : ∃ k, q = k + 1 := ⟨q - 1, by omega⟩
          have HT := Lib.hid T.2
          rw [Nat.add_sub_cancel] at HT
          have b2 : decide ((4294967296 : Int) ≤ (k : Int) + 1) = false := decide_eq_false (by omega)
          have c4 : IntKind.u64.wrap (((k : Int) + 1) * (y0 : Int)) = (p : Int) := by have := c1; rw [Int.natCast_add] at this; exact this
          obtain ⟨r2, hr2⟩ : ∃ r2, r + y1 = r2 := ⟨_, rfl⟩
          rw [hr2] at HT
          have b3 := sub_one k (by omega)
          have b4 := add_small r y1 hrB hy1'
          rw [hr2] at b4
          have HK := Lib.hid (show k ≤ 4294967296 by omega)
          clear hq T HLOW HG hr2 hp hb hc ht
          by_cases hr : 4294967296 ≤ r2
          · have b5 : decide ((4294967296 : Int) ≤ (r2 : Int)) = true := decide_eq_true (by omega)
            have HQ := Lib.hid (guess_far HF1.out HT.out HK.out hr)
            clear hr
            go_wp2_with fail
            go_meet
            exact ⟨by rw [HQ.out, HQ1.out], rfl⟩
          · have b5 : decide ((4294967296 : Int) ≤ (r2 : Int)) = false := decide_eq_false (by omega)
            go_wp2_with fail
            go_round
            case rel => exact ⟨k, r2, rfl, rfl, HT, by omega⟩
            case measure => simp [intOf]
        · have HQ := Lib.hid (guess_done HF1.out HG.out (by rw [hb, hc, hp]; omega))
          have b6 : decide (c < p) = false := decide_eq_false ht
          clear hq HLOW HG hp hb hc ht
          go_wp2_with fail
          go_meet
          exact ⟨by rw [HQ.out, HQ1.out], rfl⟩
  case rest =>
    obtain ⟨rfl, hww⟩ := hcut
    replace hww := hww.symm
    subst hww
    go_upto_block 2 with fail
    go_cut [18] (fun sq wx => sq = .int .u64 (Q2 : Nat) ∧ wx = w)
    case first =>
      go_wp2_with fail
      go_loop [18, 16] (fun sq sr => ∃ q r : Nat, sq = .int .u64 q ∧ sr = .int .u64 r ∧ Hid (Guess n2 y1 y0 e0 q r) ∧ r < 4294967296) (fun sq _ => (intOf sq).toNat)
      case atStart => exact ⟨q2, r2', rfl, rfl, Hq2.out, Hq2r.out⟩
      case round =>
        obtain ⟨q, r, rfl, rfl, HG, hrB⟩ := hrel
        have HLOW := Lib.hid HG.out.low
        by_cases hq : 4294967296 ≤ q
        · have T := guess_test HF2.out HG.out (.inl hq)
          obtain ⟨k, rfl⟩ : ∃ k, q = k + 1 := ⟨q - 1, by omega⟩
          have HT := Lib.hid T.2
          rw [Nat.add_sub_cancel] at HT
          have b1 : decide ((4294967296 : Int) ≤ (k : Int) + 1) = true := decide_eq_true (by omega)
          have b2 : decide (4294967296 ≤ k + 1) = true := decide_eq_true hq
          obtain ⟨r2, hr2⟩ : ∃ r2, r + y1 = r2 := ⟨_, rfl⟩
          rw [hr2] at HT
          have b3 := sub_one k (by have := HLOW.out; omega)
          have b4 := add_small r y1 hrB hy1'
          rw [hr2] at b4
          have HK := Lib.hid (show k ≤ 4294967296 by have := HLOW.out; omega)
          clear hq T HLOW HG hr2
          by_cases hr : 4294967296 ≤ r2
          · have b5 : decide ((4294967296 : Int) ≤ (r2 : Int)) = true := decide_eq_true (by omega)
            have HQ := Lib.hid (guess_far HF2.out HT.out HK.out hr)
            clear hr
            go_wp2_with fail
            go_meet
            exact ⟨by rw [HQ.out, HQ2.out], rfl⟩
          · have b5 : decide ((4294967296 : Int) ≤ (r2 : Int)) = false := decide_eq_false (by omega)
            go_wp2_with fail
            go_round
            case rel => exact ⟨k, r2, rfl, rfl, HT, by omega⟩
            case measure => simp [intOf]
        · have b1 : decide ((4294967296 : Int) ≤ (q : Int)) = false := decide_eq_false (by omega)
          obtain ⟨p, hp⟩ : ∃ p, q * y0 = p := ⟨_, rfl⟩
          obtain ⟨b, hb⟩ : ∃ b, 4294967296 * r = b := ⟨_, rfl⟩
          obtain ⟨c, hc⟩ : ∃ c, b + e0 = c := ⟨_, rfl⟩
          have c1 := mul_small q y0 p (by omega) hy0 hp
          have c2 := mul_base r b hrB hb
          have c3 := add_base b e0 c (by omega) (by omega) hc
          by_cases ht : c < p
          · have T := guess_test HF2.out HG.out (.inr (by rw [hb, hc, hp]; exact ht))
            have b6 : decide (c < p) = true := decide_eq_true ht
            obtain ⟨k, rfl⟩ : ∃ k, q = k + 1 := ⟨q - 1, by omega⟩
            have HT := Lib.hid T.2
            rw [Nat.add_sub_cancel] at HT
            have b2 : decide ((4294967296 : Int) ≤ (k : Int) + 1) = false := decide_eq_false (by omega)
            have c4 : IntKind.u64.wrap (((k : Int) + 1) * (y0 : Int)) = (p : Int) := by have := c1; rw [Int.natCast_add] at this; exact this
            obtain ⟨r2, hr2⟩ : ∃ r2, r + y1 = r2 := ⟨_, rfl⟩
            rw [hr2] at HT
            have b3 := sub_one k (by omega)
            have b4 := add_small r y1 hrB hy1'
            rw [hr2] at b4
            have HK := Lib.hid (show k ≤ 4294967296 by omega)
            clear hq T HLOW HG hr2 hp hb hc ht
            by_cases hr : 4294967296 ≤ r2
            · have b5 : decide ((4294967296 : Int) ≤ (r2 : Int)) = true := decide_eq_true (by omega)
              have HQ := Lib.hid (guess_far HF2.out HT.out HK.out hr)
              clear hr
              go_wp2_with fail
              go_meet
              exact ⟨by rw [HQ.out, HQ2.out], rfl⟩
            · have b5 : decide ((4294967296 : Int) ≤ (r2 : Int)) = false := decide_eq_false (by omega)
              go_wp2_with fail
              go_round
              case rel => exact ⟨k, r2, rfl, rfl, HT, by omega⟩
              case measure => simp [intOf]
          · have HQ := Lib.hid (guess_done HF2.out HG.out (by rw [hb, hc, hp]; omega))
            have b6 : decide (c < p) = false := decide_eq_false ht
            clear hq HLOW HG hp hb hc ht
            go_wp2_with fail
            go_meet
            exact ⟨by rw [HQ.out, HQ2.out], rfl⟩
    case rest =>
      obtain ⟨rfl, hww⟩ := hcut
      replace hww := hww.symm
      subst hww
      go_wp2_with fail
      go_ret2
      exact ⟨rfl, rfl⟩
end Go.Proofs.Ytfaahkjgbjcjgaa
