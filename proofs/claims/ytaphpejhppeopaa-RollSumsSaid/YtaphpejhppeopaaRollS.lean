/-
  Sums that go on: the reference's More and Of; both sides together.
-/
import Derived.Test.YtaphpejhppeopaaRollR
import Derived.Test.YtaphpejhppeopaaRefBit
namespace Go.Proofs.Ytaphpejhppeopaa
open Go.RowKit Pl
set_option linter.unusedVariables false

set_option maxHeartbeats 1000000 in
theorem rmore_bad (s : Nat) (A : Option Addr) (c : Nat) (B : List Int) (N : Int) (w : World) (hr : Rd w A B) (hB : Byts B) (hN : -9223372036854775808 ≤ N ∧ N ≤ 9223372036854775807) (hl : (B.length : Int) ≤ 1000000) (hs : ¬ Snd B N) :
    Calls Try.prog 16 #[.int .u64 s, .agg #[.slice A B.length c, .int .i64 N]] w fun e w' => e = .returned (.tuple #[.int .u64 0, .int .i64 11]) ∧ Below w.heap.size w w' := by
  have HS := Lib.hid (rsound_no (A := A) (c := c) hB hN (by omega) hs)
  clear hN hB hs
  go_enter Try.func16, Try.ntmps16
  go_wp2_with fail
  refine (HS.out _ (hr.alloc _)).mono ?_
  rintro e w1 ⟨rfl, hb1⟩
  go_wp2_with fail
  go_ret2
  exact ⟨rfl, ((Below.refl _ _).alloc (Nat.le_refl _) _).trans (hb1.mono (by simp))⟩

theorem bi_one (b : Bool) : (bi b == 1) = b := by cases b <;> rfl

set_option maxRecDepth 100000 in
set_option maxHeartbeats 2000000 in
theorem rmore_any (s : Nat) (A : Option Addr) (c : Nat) (B : List Int) (L : List Bool) (w : World) (hr : Rd w A B) (hp : Packs B L) (hl : (B.length : Int) ≤ 1000000) :
    Calls Try.prog 16 #[.int .u64 s, .agg #[.slice A B.length c, .int .i64 (L.length : Int)]] w fun e w' => e = .returned (.tuple #[.int .u64 (moreN (s % P) L : Nat), .int .i64 0]) ∧ Below w.heap.size w w' := by
  have hLB := packs_len_le hp
  have HS := rsound_yes (A := A) (c := c) hp (by omega)
  have HBT := fun (N : Int) (k : Nat) wx (h : Rd wx A B) (hk : k < 8 * B.length) => rbit_any A c B N k wx h hp.byts hk (by omega)
  obtain ⟨n, hn⟩ : ∃ n, B.length = n := ⟨_, rfl⟩
  obtain ⟨m, hm⟩ : ∃ m, L.length = m := ⟨_, rfl⟩
  obtain ⟨R, hR⟩ : ∃ R, moreN (s % P) L = R := ⟨_, rfl⟩
  have hm0 := mod_nat s
  obtain ⟨s0, hs0⟩ : ∃ s0, s % P = s0 := ⟨_, rfl⟩
  rw [hs0] at hm0 hR
  have hs0P : s0 < P := by rw [← hs0]; exact Nat.mod_lt _ P_pos
  unfold RSoundSays at HS
  rw [hn] at HS hl hLB HBT
  rw [hm] at HS hLB
  rw [hn, hm, hs0, hR]
  have HSS := Lib.hid HS
  have HBB := Lib.hid HBT
  have HN := Lib.hid hn
  have HM := Lib.hid hm
  have HR := Lib.hid hR
  have HP := Lib.hid hp
  have HSP := Lib.hid hs0P
  have HM0 := Lib.hid hm0
  have hm' : (m : Int) ≤ 8000000 := by omega
  clear hp hn hm hR hs0 hs0P hm0 HS HBT
  go_enter Try.func16, Try.ntmps16
  go_wp2_with fail
  refine (HSS.out _ (hr.alloc _)).mono ?_
  rintro e w1 ⟨rfl, hb1⟩
  have T1 := (rollBlk (w := w) (t := 29) (cs := #[.slice A n c, .int .i64 (m : Int)])).below hb1 (by simp)
  have hbw : Below w.heap.size w w1 := ((Below.refl _ _).alloc (Nat.le_refl _) _).trans (hb1.mono (by simp))
  clear hb1
  go_wp2_with fail
  go_loopw [0, 7] (fun a i wr => ∃ k x : Nat, k ≤ m ∧ i = .int .i64 k ∧ a = .int .u64 x ∧ Hid (moreN s0 (L.take k) = x) ∧ Hid (Blk wr w.heap.size 29 #[.slice A n c, .int .i64 (m : Int)]) ∧ Below w.heap.size w wr) (fun _ i _ => m - (intOf i).toNat)
  case atStart => exact ⟨0, s0, Nat.zero_le _, rfl, by rw [HM0.out], Lib.hid rfl, Lib.hid T1, hbw⟩
  case round =>
    obtain ⟨wo, rfl⟩ : ∃ wo : World, wo = wr := ⟨_, rfl⟩
    obtain ⟨k, x, hk, rfl, rfl, HX, HT, hbo⟩ := hrel
    have hk' : (k : Int) ≤ 8000000 := by omega
    have c0 := HT.out.cell 0
    have c1 := HT.out.cell 1
    clear T1 hbw
    by_cases h0 : k = m
    · have hx : x = R := by rw [← HX.out, ← HR.out, List.take_of_length_le (by rw [HM.out]; omega)]
      subst h0
      subst hx
      go_wp2_with fail
      go_ret2
      exact ⟨rfl, hbo⟩
    · have hd : decide (k < m) = true := decide_eq_true (by omega)
      have hx64 : N64 x := by rw [← HX.out]; exact P_n64 (moreN_lt HSP.out _)
      have hkL : k < L.length := by rw [HM.out]; omega
      obtain ⟨b, hb⟩ : ∃ b, bitAt B k = b := ⟨_, rfl⟩
      have hLk : L.getD k false = b := by rw [← HP.out.bit, hb]
      have hbt := fun wx h => HBB.out (m : Int) k wx h (by omega)
      rw [hb] at hbt
      have HBK := Lib.hid hbt
      have e2 := bi_one b
      have HNX := rnext_any x b
      have HST : Hid (moreN s0 (L.take (k + 1)) = nextN x b) := Lib.hid (by rw [take_snoc hkL, moreN_snoc, HX.out, hLk])
      obtain ⟨y, hy⟩ : ∃ y, nextN x b = y := ⟨_, rfl⟩
      rw [hy] at HNX HST
      have HNY := Lib.hid HNX
      have hkm : k < m := by omega
      clear hbt hb hx64 hkL hLk hy h0 HNX
      go_wp2_with fail
      refine (HBK.out _ (hr.below hbo)).mono ?_
      rintro e w2 ⟨rfl, hb2⟩
      have HT2 := Lib.hid (HT.out.below hb2 HT.out.lt)
      have hbo2 := hbo.trans (hb2.mono hbo.size)
      clear c0 c1 hb2
      go_wp2_with fail
      refine (HNY.out _).mono ?_
      rintro e w3 ⟨rfl, rfl⟩
      go_wp2_with fail
      go_roundw
      case rel => exact ⟨k + 1, y, by omega, by go_num, rfl, HST, HT2, hbo2⟩
      case measure => simp [intOf]; omega

/-- The call answers a number, and a number of an error. -/
def RetN (k : IntKind) (v : Nat) (x : Int) (w : World) (e : Ending) (w' : World) : Prop :=
  e = .returned (.tuple #[.int .u64 v, .int k x]) ∧ Below w.heap.size w w'

theorem more_both (s : Nat) (B : List Int) (N : Int) (hB : Byts B) (hN : -9223372036854775808 ≤ N ∧ N ≤ 9223372036854775807) (hl : (B.length : Int) ≤ 1000000) :
    ∃ (v : Nat) (x : Int), (0 ≤ x ∧ x ≤ 11) ∧ (∀ wx A c, Rd wx A B → Calls Try.prog 15 #[.int .u64 s, .agg #[.slice A B.length c, .int .i64 N]] wx (RetN .u16 v x wx)) ∧
      (∀ wx A c, Rd wx A B → Calls Try.prog 16 #[.int .u64 s, .agg #[.slice A B.length c, .int .i64 N]] wx (RetN .i64 v x wx)) := by
  by_cases hs : Snd B N
  · have hp := packs_of_snd hB hs
    obtain ⟨L, hL⟩ : ∃ L, bitsOf B N.toNat = L := ⟨_, rfl⟩
    have hLN : N = (L.length : Int) := by rw [← hL, bitsOf_length]; have := hs.1; omega
    rw [hL] at hp
    subst hLN
    exact ⟨_, 0, by decide, fun wx A c h => more_any s A c B L wx h hp hl, fun wx A c h => rmore_any s A c B L wx h hp hl⟩
  · exact ⟨0, 11, by decide, fun wx A c h => more_bad s A c B N wx h hB hN hl hs, fun wx A c h => rmore_bad s A c B N wx h hB hN hl hs⟩

set_option maxHeartbeats 1000000 in
theorem of_by {A : Option Addr} {c n v : Nat} {N x : Int} {B : List Int} (w : World) (hr : Rd w A B) (h : ∀ wx, Rd wx A B → Calls Try.prog 15 #[.int .u64 0, .agg #[.slice A n c, .int .i64 N]] wx (RetN .u16 v x wx)) :
    Calls Try.prog 13 #[.agg #[.slice A n c, .int .i64 N]] w (RetN .u16 v x w) := by
  have HM := Lib.hid h
  clear h
  go_enter Try.func13, Try.ntmps13
  go_wp2_with fail
  refine (HM.out _ (hr.alloc _)).mono ?_
  rintro e w1 ⟨rfl, hb1⟩
  go_wp2_with fail
  go_ret2
  exact ⟨rfl, ((Below.refl _ _).alloc (Nat.le_refl _) _).trans (hb1.mono (by simp))⟩
set_option maxHeartbeats 1000000 in
theorem rof_by {A : Option Addr} {c n v : Nat} {N x : Int} {B : List Int} (w : World) (hr : Rd w A B) (h : ∀ wx, Rd wx A B → Calls Try.prog 16 #[.int .u64 0, .agg #[.slice A n c, .int .i64 N]] wx (RetN .i64 v x wx)) :
    Calls Try.prog 14 #[.agg #[.slice A n c, .int .i64 N]] w (RetN .i64 v x w) := by
  have HM := Lib.hid h
  clear h
  go_enter Try.func14, Try.ntmps14
  go_wp2_with fail
  refine (HM.out _ (hr.alloc _)).mono ?_
  rintro e w1 ⟨rfl, hb1⟩
  go_wp2_with fail
  go_ret2
  exact ⟨rfl, ((Below.refl _ _).alloc (Nat.le_refl _) _).trans (hb1.mono (by simp))⟩
end Go.Proofs.Ytaphpejhppeopaa
