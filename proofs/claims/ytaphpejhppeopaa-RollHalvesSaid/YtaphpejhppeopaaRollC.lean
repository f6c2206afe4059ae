/-
  Sums that go on: bits behind a sum; the chapter's examples: the program's.
-/
import Derived.Test.YtaphpejhppeopaaRollB
import Derived.Test.YtaphpejhppeopaaSound
import Derived.Test.YtaphpejhppeopaaPl4
namespace Go.Proofs.Ytaphpejhppeopaa
open Go.RowKit Pl
set_option linter.unusedVariables false

/-- A sum with bits behind it. -/
def moreN (s : Nat) (L : List Bool) : Nat := L.foldl nextN s
theorem moreN_snoc (s : Nat) (L : List Bool) (b : Bool) : moreN s (L ++ [b]) = nextN (moreN s L) b := by unfold moreN; rw [List.foldl_append, List.foldl_cons, List.foldl_nil]
theorem nextN_lt (s : Nat) (b : Bool) : nextN s b < P := Nat.mod_lt _ P_pos
theorem moreN_lt {s : Nat} (h : s < P) (L : List Bool) : moreN s L < P := by
  rcases List.eq_nil_or_concat L with h0 | ⟨M, x, h0⟩
  · subst h0; exact h
  · rw [h0, List.concat_eq_append, moreN_snoc]; exact nextN_lt _ _
theorem P_n64 {a : Nat} (h : a < P) : N64 a := by rw [P_val] at h; unfold N64; omega
theorem bi_ne (b : Bool) : (bi b != 0) = b := by cases b <;> rfl

theorem rollBlk {w : World} {t : TypeId} {cs : Array Value} : Blk (w.alloc (.cells cs t)) w.heap.size t cs := Blk.new w t cs

set_option maxHeartbeats 1000000 in
theorem more_bad (s : Nat) (A : Option Addr) (c : Nat) (B : List Int) (N : Int) (w : World) (hr : Rd w A B) (hB : Byts B) (hN : -9223372036854775808 ≤ N ∧ N ≤ 9223372036854775807) (hl : (B.length : Int) ≤ 1000000) (hs : ¬ Snd B N) :
    Calls Try.prog 15 #[.int .u64 s, .agg #[.slice A B.length c, .int .i64 N]] w fun e w' => e = .returned (.tuple #[.int .u64 0, .int .u16 11]) ∧ Below w.heap.size w w' := by
  have HS := Lib.hid (fun wx (h : Rd wx A B) => by
    have := sound_any A c B N wx h hB hN (by omega)
    rw [sndB_false hs] at this
    exact this)
  clear hN hB hs
  go_enter Try.func15, Try.ntmps15
  go_wp2_with fail
  refine (HS.out _ (hr.alloc _)).mono ?_
  rintro e w1 ⟨rfl, hb1⟩
  go_wp2_with fail
  go_ret2
  exact ⟨rfl, ((Below.refl _ _).alloc (Nat.le_refl _) _).trans (hb1.mono (by simp))⟩

set_option maxRecDepth 100000 in
set_option maxHeartbeats 2000000 in
theorem more_any (s : Nat) (A : Option Addr) (c : Nat) (B : List Int) (L : List Bool) (w : World) (hr : Rd w A B) (hp : Packs B L) (hl : (B.length : Int) ≤ 1000000) :
    Calls Try.prog 15 #[.int .u64 s, .agg #[.slice A B.length c, .int .i64 (L.length : Int)]] w fun e w' => e = .returned (.tuple #[.int .u64 (moreN (s % P) L : Nat), .int .u16 0]) ∧ Below w.heap.size w w' := by
  have hLB := packs_len_le hp
  have hN : -9223372036854775808 ≤ (L.length : Int) ∧ (L.length : Int) ≤ 9223372036854775807 := by omega
  have HS := Lib.hid (fun wx (h : Rd wx A B) => by
    have := sound_any A c B (L.length : Int) wx h hp.byts hN (by omega)
    rw [(sndB_iff B _).2 (snd_of_packs hp)] at this
    exact this)
  obtain ⟨n, hn⟩ : ∃ n, B.length = n := ⟨_, rfl⟩
  obtain ⟨m, hm⟩ : ∃ m, L.length = m := ⟨_, rfl⟩
  obtain ⟨R, hR⟩ : ∃ R, moreN (s % P) L = R := ⟨_, rfl⟩
  have hm0 := mod_nat s
  obtain ⟨s0, hs0⟩ : ∃ s0, s % P = s0 := ⟨_, rfl⟩
  rw [hs0] at hm0 hR
  have hs0P : s0 < P := by rw [← hs0]; exact Nat.mod_lt _ P_pos
  rw [hn] at HS hl hLB
  rw [hm] at HS hLB
  rw [hn, hm, hs0, hR]
  have HN := Lib.hid hn
  have HM := Lib.hid hm
  have HR := Lib.hid hR
  have HP := Lib.hid hp
  have HSP := Lib.hid hs0P
  have hm' : (m : Int) ≤ 8000000 := by omega
  have HM0 := Lib.hid hm0
  clear hN hp hn hm hR hs0 hs0P hm0
  go_enter Try.func15, Try.ntmps15
  go_wp2_with fail
  refine (HS.out _ (hr.alloc _)).mono ?_
  rintro e w1 ⟨rfl, hb1⟩
  have T1 := (rollBlk (w := w) (t := 29) (cs := #[.slice A n c, .int .i64 (m : Int)])).below hb1 (by simp)
  have c0 := T1.cell 0
  have c1 := T1.cell 1
  have hbw : Below w.heap.size w w1 := ((Below.refl _ _).alloc (Nat.le_refl _) _).trans (hb1.mono (by simp))
  have hr1 := (hr.alloc (.cells #[.slice A n c, .int .i64 (m : Int)] 29)).below hb1
  clear hb1 T1
  go_wp2_with fail
  go_loopw [0, 14] (fun a i wr => ∃ k x j : Nat, k ≤ m ∧ i = .int .i64 k ∧ a = .int .u64 x ∧ Hid (moreN s0 (L.take k) = x) ∧ wr = w1.drewN j) (fun _ i _ => m - (intOf i).toNat)
  case atStart => exact ⟨0, s0, 0, Nat.zero_le _, rfl, by rw [HM0.out], Lib.hid rfl, rfl⟩
  case round =>
    obtain ⟨k, x, j, hk, rfl, rfl, HX, rfl⟩ := hrel
    have hk' : (k : Int) ≤ 8000000 := by omega
    by_cases h0 : k = m
    · have hx : x = R := by rw [← HX.out, ← HR.out, List.take_of_length_le (by rw [HM.out]; omega)]
      subst h0
      subst hx
      go_wp2_with fail
      go_ret2
      exact ⟨rfl, below_drewN hbw j⟩
    · have hd : decide (k < m) = true := decide_eq_true (by omega)
      obtain ⟨g, o, rfl, hg, hc⟩ := hr1.at_ (by rw [HN.out]; omega)
      have h1 := hc (k / 8) (by rw [HN.out]; omega)
      have hi : k / 8 < n := by omega
      have A1 := bit_of HP.out.byts k
      change bits .and .u8 (nth B (k / 8) / 2 ^ (7 - k % 8)) 1 = _ at A1
      obtain ⟨b, hb⟩ : ∃ b, bitAt B k = b := ⟨_, rfl⟩
      rw [hb] at A1
      have e2 := bi_ne b
      have hx64 : N64 x := by rw [← HX.out]; exact P_n64 (moreN_lt HSP.out _)
      have hkL : k < L.length := by rw [HM.out]; omega
      have hLk : L.getD k false = b := by rw [← HP.out.bit, hb]
      have HNX := Lib.hid (next_any x hx64 b)
      have HST : Hid (moreN s0 (L.take (k + 1)) = nextN x b) := Lib.hid (by rw [take_snoc hkL, moreN_snoc, HX.out, hLk])
      obtain ⟨y, hy⟩ : ∃ y, nextN x b = y := ⟨_, rfl⟩
      rw [hy] at HNX HST
      have hkm : k < m := by omega
      clear hc hb hx64 hkL hLk hy h0
      go_wp2_with fail
      refine (HNX.out _).mono ?_
      rintro e w2 ⟨rfl, j2, rfl⟩
      go_wp2_with fail
      go_roundw
      case rel => exact ⟨k + 1, y, _, by omega, by go_num, rfl, HST, rfl⟩
      case measure => simp [intOf]; omega

set_option maxHeartbeats 1000000 in
theorem of_any (A : Option Addr) (c : Nat) (B : List Int) (L : List Bool) (w : World) (hr : Rd w A B) (hp : Packs B L) (hl : (B.length : Int) ≤ 1000000) :
    Calls Try.prog 13 #[.agg #[.slice A B.length c, .int .i64 (L.length : Int)]] w fun e w' => e = .returned (.tuple #[.int .u64 (moreN 0 L : Nat), .int .u16 0]) ∧ Below w.heap.size w w' := by
  have hM := fun wx (h : Rd wx A B) => more_any 0 A c B L wx h hp hl
  rw [show (0 : Nat) % P = 0 from Nat.zero_mod P] at hM
  obtain ⟨n, hn⟩ : ∃ n, B.length = n := ⟨_, rfl⟩
  obtain ⟨m, hm⟩ : ∃ m, L.length = m := ⟨_, rfl⟩
  obtain ⟨R, hR⟩ : ∃ R, moreN 0 L = R := ⟨_, rfl⟩
  rw [hn, hm, hR] at hM ⊢
  have HM : Hid (∀ wx, Rd wx A B → Calls Try.prog 15 #[.int .u64 0, .agg #[.slice A n c, .int .i64 (m : Int)]] wx fun e w' => e = .returned (.tuple #[.int .u64 (R : Nat), .int .u16 0]) ∧ Below wx.heap.size wx w') := Lib.hid hM
  clear hM hn hm hR hp hl
  go_enter Try.func13, Try.ntmps13
  go_wp2_with fail
  refine (HM.out _ (hr.alloc _)).mono ?_
  rintro e w1 ⟨rfl, hb1⟩
  go_wp2_with fail
  go_ret2
  exact ⟨rfl, ((Below.refl _ _).alloc (Nat.le_refl _) _).trans (hb1.mono (by simp))⟩

set_option maxHeartbeats 1000000 in
theorem of_bad (A : Option Addr) (c : Nat) (B : List Int) (N : Int) (w : World) (hr : Rd w A B) (hB : Byts B) (hN : -9223372036854775808 ≤ N ∧ N ≤ 9223372036854775807) (hl : (B.length : Int) ≤ 1000000) (hs : ¬ Snd B N) :
    Calls Try.prog 13 #[.agg #[.slice A B.length c, .int .i64 N]] w fun e w' => e = .returned (.tuple #[.int .u64 0, .int .u16 11]) ∧ Below w.heap.size w w' := by
  have HM : Hid (∀ wx, Rd wx A B → Calls Try.prog 15 #[.int .u64 0, .agg #[.slice A B.length c, .int .i64 N]] wx fun e w' => e = .returned (.tuple #[.int .u64 0, .int .u16 11]) ∧ Below wx.heap.size wx w') := Lib.hid (fun wx h => more_bad 0 A c B N wx h hB hN hl hs)
  clear hN hB hs
  go_enter Try.func13, Try.ntmps13
  go_wp2_with fail
  refine (HM.out _ (hr.alloc _)).mono ?_
  rintro e w1 ⟨rfl, hb1⟩
  go_wp2_with fail
  go_ret2
  exact ⟨rfl, ((Below.refl _ _).alloc (Nat.le_refl _) _).trans (hb1.mono (by simp))⟩

theorem Rd.one (w : World) (x : Int) (t : TypeId) : Rd (w.alloc (.cells #[.int .u8 x] t)) (some ⟨w.heap.size, 0, none⟩) [x] := by
  refine .inr ⟨w.heap.size, 0, rfl, by simp, fun i hi => ?_⟩
  have : i = 0 := by simp at hi; omega
  subst this
  simp [nth]
theorem packs_known : Packs [128] [true, false] := by
  refine ⟨rfl, fun x hx => ?_, fun i => ?_⟩
  · simp at hx; subst hx; decide
  · rcases Nat.lt_or_ge i 8 with h | h
    · have h2 : ∀ i : Fin 8, bitAt [128] i.val = ([true, false] : List Bool).getD i.val false := by decide
      exact h2 ⟨i, h⟩
    · rw [bitAt_far (by simpa using h), getD_far _ _ (by simp; omega)]
theorem more_known : moreN 0 [true, false] = 2000000015 := by decide +kernel
theorem join_known : joinN 2 1 1 = 2000000015 := by decide +kernel

set_option maxHeartbeats 1000000 in
theorem known_any (w : World) : Calls Try.prog 8 #[] w fun e w' => e = .returned (.bool true) ∧ Below w.heap.size w w' := by
  have HO : Hid (∀ (wx : World) (A : Option Addr), Rd wx A [128] → Calls Try.prog 13 #[.agg #[.slice A 1 1, .int .i64 2]] wx fun e w' => e = .returned (.tuple #[.int .u64 2000000015, .int .u16 0]) ∧ Below wx.heap.size wx w') := Lib.hid (fun wx A h => by
    have := of_any A 1 [128] [true, false] wx h packs_known (by decide)
    rw [more_known] at this
    exact this)
  have HJ : Hid (∀ (wx : World), Calls Try.prog 11 #[.int .u64 2, .int .u64 1, .int .i64 1] wx fun e w' => e = .returned (.int .u64 2000000015) ∧ ∃ k, wx.drewN k = w') := Lib.hid (fun wx => by
    have := join_any 2 1 (by unfold N64; omega) 1 (by decide) wx
    rw [show (1 : Int).toNat = 1 from rfl, join_known] at this
    exact this)
  go_enter Try.func8, Try.ntmps8
  go_wp2_with fail
  refine (HO.out _ _ (Rd.one _ _ _)).mono ?_
  rintro e w1 ⟨rfl, hb1⟩
  have hbw : Below w.heap.size w w1 := ((Below.refl _ _).alloc (Nat.le_refl _) _).trans (hb1.mono (by simp))
  go_wp2_with fail
  refine (HJ.out _).mono ?_
  rintro e w2 ⟨rfl, k, rfl⟩
  go_wp2_with fail
  go_ret
  exact ⟨rfl, below_drewN hbw k⟩
end Go.Proofs.Ytaphpejhppeopaa
