/-
  Rows.BitApartSaid is proved: for all two bits by value, every two numbers and width: with the same number behind them they are alike just if they are alike without; two numbers of one width behind the same bits are alike just if they are so modulo the width. No condition.
-/
import Derived.Test.YtifjanlcfjajpaaBoth
import Derived.Deep.DeepCutAuto
import Derived.RegionTactic
import Derived.Deep.RegionHeld3
import Derived.Test.YtifjanlcfjajpaaPl5
namespace Go.Proofs.Ytifjanlcfjajpaa
open Go.ChangeShapes Go.WideShapes Go.ChangeAt Go.RowKit
open Pl
set_option linter.unusedVariables false

theorem genBlk {w : World} {t : TypeId} {cs : Array Value} : Blk (w.alloc (.cells cs t)) w.heap.size t cs := Blk.new w t cs

/-- Same, of bits that are told as lists. -/
theorem same_packs {A1 A2 : Option Addr} {c1 c2 : Nat} {B1 B2 : List Int} {L1 L2 : List Bool} {n1 n2 : Nat} (p1 : Packs B1 L1) (p2 : Packs B2 L2) (l1 : L1.length = n1) (l2 : L2.length = n2) (b : Bool) (hb : decide (L1 = L2) = b) (w : World) (h1 : Rd w A1 B1) (h2 : Rd w A2 B2) :
    Calls Try.prog 15 #[.agg #[.slice A1 B1.length c1, .int .i64 (n1 : Int)], .agg #[.slice A2 B2.length c2, .int .i64 (n2 : Int)]] w fun e w' => e = .returned (.bool b) ∧ Below w.heap.size w w' := by
  refine (same_any A1 A2 c1 c2 B1 B2 (n1 : Int) (n2 : Int) w h1 h2 p1.byts p2.byts).mono fun e w' h => ⟨?_, h.2⟩
  rw [h.1, ← hb, ← Bool.decide_and]
  have := packs_iff p1 p2
  rw [l1, l2] at this
  exact congrArg (fun b => Ending.returned (.bool b)) (decide_eq_decide.2 (by rw [Int.natCast_inj]; exact this))

/-- The two cells of a box stay behind a call that turns nothing old. -/
theorem box2 {W w' : World} {g : Nat} {x0 x1 : Value} (hb : Below W.heap.size W w') (hg : g < W.heap.size) (hx : W.cell? ⟨g, 0, none⟩ = some x0 ∧ W.cell? ⟨g, 1, none⟩ = some x1) : w'.cell? ⟨g, 0, none⟩ = some x0 ∧ w'.cell? ⟨g, 1, none⟩ = some x1 :=
  ⟨(hb.cell (p := ⟨g, 0, none⟩) hg).trans hx.1, (hb.cell (p := ⟨g, 1, none⟩) hg).trans hx.2⟩

theorem pow_fits {W : Nat} (h : W < 64) : IntKind.u64.wrap ((2 : Int) ^ W) = 2 ^ W := by
  have hPlt : (2 : Int) ^ W < 18446744073709551616 := by
    have : (2 : Nat) ^ W < 2 ^ 64 := Nat.pow_lt_pow_right (by omega) h
    have h2 : ((2 ^ W : Nat) : Int) = (2 : Int) ^ W := by simp
    omega
  have hP0 : 0 < (2 : Int) ^ W := Int.pow_pos (by omega)
  have := Int.emod_eq_of_lt (Int.le_of_lt hP0) hPlt
  simpa [IntKind.wrap, IntKind.bits, IntKind.signed] using this

theorem mod_same (u v W : Nat) : ((u : Int) % 2 ^ W == (v : Int) % 2 ^ W) = decide (u % 2 ^ W = v % 2 ^ W) := by
  show decide _ = _
  rw [decide_eq_decide, ← Int.natCast_inj]; simp
theorem mod_all {u v W : Nat} (hW : ¬ W < 64) (hW2 : W ≤ 64) (hu : U64 (u : Int)) (hv : U64 (v : Int)) : ((u : Int) == (v : Int)) = decide (u % 2 ^ W = v % 2 ^ W) := by
  show decide _ = _
  have : W = 64 := by omega
  subst this
  simp only [U64] at hu hv
  rw [decide_eq_decide, Nat.mod_eq_of_lt (by omega), Nat.mod_eq_of_lt (by omega), Int.natCast_inj]

/-- What region 9 to 11 say of two numbers. -/
theorem nbits_same (L : List Bool) (u v W : Nat) : decide (L ++ nbits u W = L ++ nbits v W) = decide (u % 2 ^ W = v % 2 ^ W) := by
  rw [decide_eq_decide, append_right_iff, nbits_inj]

set_option maxRecDepth 100000 in
set_option maxHeartbeats 4000000 in
theorem walk_BitApart (w : World) (A : Option Addr) (c : Nat) (B : List Int) (N : Int) (hr : Rd w A B) (hB : Byts B) (hN : -9223372036854775808 ≤ N ∧ N ≤ 9223372036854775807)
    (Ay : Option Addr) (cy : Nat) (By : List Int) (Ny : Int) (hry : Rd w Ay By) (hBy : Byts By) (hNy : -9223372036854775808 ≤ Ny ∧ Ny ≤ 9223372036854775807) (v : Int) (hv : U64 v) (u : Int) (hu : U64 u) (wd : Int) (hwd : 0 ≤ wd ∧ wd < 256) :
    Calls Try.prog 3 #[.agg #[.slice A B.length c, .int .i64 N], .agg #[.slice Ay By.length cy, .int .i64 Ny], .int .u64 v, .int .u64 u, .int .u8 wd] w fun e w' => e = .returned (.bool true) ∧ Below w.heap.size w w' := by
  by_cases hbig : (1500 : Int) < (B.length : Int)
  · have hd' : decide (1500 < B.length) = true := by simp; omega
    clear hN hB hr hNy hBy hry
    go_enter Try.func3, Try.ntmps3
    go_wp2_with fail
    refine (known_any _).mono ?_
    rintro e w1 ⟨rfl, hb1⟩
    go_wp2_with fail
    go_ret
    exact ⟨rfl, (((Below.refl _ _).alloc (Nat.le_refl _) _).alloc (by simp) _).trans (hb1.mono (by simp; omega))⟩
  by_cases hbigy : (1500 : Int) < (By.length : Int)
  · have hd' : decide (1500 < B.length) = false := by simp; omega
    have hd2 : decide (1500 < By.length) = true := by simp; omega
    clear hN hB hr hNy hBy hry
    go_enter Try.func3, Try.ntmps3
    go_wp2_with fail
    refine (known_any _).mono ?_
    rintro e w1 ⟨rfl, hb1⟩
    go_wp2_with fail
    go_ret
    exact ⟨rfl, (((Below.refl _ _).alloc (Nat.le_refl _) _).alloc (by simp) _).trans (hb1.mono (by simp; omega))⟩
  have hd' : decide (1500 < B.length) = false := by simp; omega
  have hd2 : decide (1500 < By.length) = false := by simp; omega
  obtain ⟨vn, rfl⟩ := Int.eq_ofNat_of_zero_le hv.1
  obtain ⟨un, rfl⟩ := Int.eq_ofNat_of_zero_le hu.1
  obtain ⟨W, hW⟩ : ∃ W : Nat, wd % 65 = (W : Int) := ⟨(wd % 65).toNat, by omega⟩
  have hW64 : W ≤ 64 := by omega
  obtain ⟨L, hL⟩ : ∃ L, bitsOf B (someN B N) = L := ⟨_, rfl⟩
  obtain ⟨m, hm⟩ : ∃ m, L.length = m := ⟨_, rfl⟩
  have hm12 : (m : Int) ≤ 12000 := by rw [← hm, ← hL, bitsOf_length]; unfold someN; omega
  obtain ⟨M, hM⟩ : ∃ M, bitsOf By (someN By Ny) = M := ⟨_, rfl⟩
  obtain ⟨k, hk⟩ : ∃ k, M.length = k := ⟨_, rfl⟩
  have hk12 : (k : Int) ≤ 12000 := by rw [← hk, ← hM, bitsOf_length]; unfold someN; omega
  have hSM := fun wx (h : Rd wx A B) => some_any A c B N wx h hB hN (by omega)
  rw [hL] at hSM
  have hSN := fun wx (h : Rd wx Ay By) => some_any Ay cy By Ny wx h hBy hNy (by omega)
  rw [hM] at hSN
  obtain ⟨n, hn⟩ : ∃ n, B.length = n := ⟨_, rfl⟩
  obtain ⟨ny, hny⟩ : ∃ n, By.length = n := ⟨_, rfl⟩
  rw [hn] at hd' hSM
  rw [hny] at hd2 hSN
  have hl : n ≤ 1500 := by omega
  have hly : ny ≤ 1500 := by omega
  have HSM := Lib.hid hSM
  have HSN := Lib.hid hSN
  have HM := Lib.hid hm
  have HK := Lib.hid hk
  rw [hn, hny]
  have hwd0 := hwd.1
  have hwd1 : wd ≤ 255 := by omega
  clear hB hN hbig hSM hL hm hn hwd hBy hNy hbigy hSN hM hk hny
  obtain ⟨mW, hmW⟩ : ∃ x, x = m + W := ⟨_, rfl⟩
  obtain ⟨kW, hkW⟩ : ∃ x, x = k + W := ⟨_, rfl⟩
  have HMW := Lib.hid hmW
  have HKW := Lib.hid hkW
  clear hmW hkW
  go_enter Try.func3, Try.ntmps3
  go_wp2_with fail
  refine (known_any _).mono ?_
  rintro e w1 ⟨rfl, hb1⟩
  have hbw1 : Below w.heap.size w w1 := (((Below.refl _ _).alloc (Nat.le_refl _) _).alloc (by simp) _).trans (hb1.mono (by simp; omega))
  have HTx := Lib.hid ((genBlk.alloc _).below hb1 (by simp; omega) : Blk w1 w.heap.size 24 #[.slice A n c, .int .i64 N])
  have hty := (genBlk (w := w.alloc (.cells #[.slice A n c, .int .i64 N] 24)) (t := 24) (cs := #[.slice Ay ny cy, .int .i64 Ny])).below hb1 (by simp)
  rw [show (w.alloc (.cells #[.slice A n c, .int .i64 N] 24)).heap.size = w.heap.size + 1 from by simp] at hty
  have HTy := Lib.hid hty
  have hRx := hr.below hbw1
  have hRy := hry.below hbw1
  clear hb1 hty
  have c0x := HTx.out.cell 0
  have c1x := HTx.out.cell 1
  have c0y := HTy.out.cell 0
  have c1y := HTy.out.cell 1
  go_wp2_with fail
  refine (HSM.out _ hRx).mono ?_
  rintro e w2 ⟨A2, c2, B2, rfl, hp2, own2, hb2⟩
  clear c0x c1x c0y c1y
  have hl2 : (L).length = m := by exact HM.out
  rw [hl2]
  have hRa := Rd.of_own own2
  have hbw2 := hbw1.trans (hb2.mono hbw1.size)
  replace HTx := Lib.hid (HTx.out.below hb2 HTx.out.lt)
  replace hRx := hRx.below hb2
  replace HTy := Lib.hid (HTy.out.below hb2 HTy.out.lt)
  replace hRy := hRy.below hb2
  replace HTx := Lib.hid (HTx.out.alloc (.cells #[.slice A2 B2.length c2, .int .i64 ((m : Nat) : Int)] 24))
  replace hRx := hRx.alloc (.cells #[.slice A2 B2.length c2, .int .i64 ((m : Nat) : Int)] 24)
  replace HTy := Lib.hid (HTy.out.alloc (.cells #[.slice A2 B2.length c2, .int .i64 ((m : Nat) : Int)] 24))
  replace hRy := hRy.alloc (.cells #[.slice A2 B2.length c2, .int .i64 ((m : Nat) : Int)] 24)
  replace hRa := hRa.alloc (.cells #[.slice A2 B2.length c2, .int .i64 ((m : Nat) : Int)] 24)
  have HTa := Lib.hid (genBlk (w := w2) (t := 24) (cs := #[.slice A2 B2.length c2, .int .i64 ((m : Nat) : Int)]))
  have hbwz2 : Below w.heap.size w _ := hbw2.alloc hbw2.size (.cells #[.slice A2 B2.length c2, .int .i64 ((m : Nat) : Int)] 24)
  have HP2 := Lib.hid hp2
  have HL2 := Lib.hid hl2
  clear own2 hb2 hp2 hl2
  have c0x := HTx.out.cell 0
  have c1x := HTx.out.cell 1
  have c0y := HTy.out.cell 0
  have c1y := HTy.out.cell 1
  have c0a := HTa.out.cell 0
  have c1a := HTa.out.cell 1
  go_wp2_with fail
  refine (HSN.out _ hRy).mono ?_
  rintro e w3 ⟨A3, c3, B3, rfl, hp3, own3, hb3⟩
  clear c0x c1x c0y c1y c0a c1a
  have hl3 : (M).length = k := by exact HK.out
  rw [hl3]
  have hRb := Rd.of_own own3
  have hbw3 := hbwz2.trans (hb3.mono hbwz2.size)
  replace HTx := Lib.hid (HTx.out.below hb3 HTx.out.lt)
  replace hRx := hRx.below hb3
  replace HTy := Lib.hid (HTy.out.below hb3 HTy.out.lt)
  replace hRy := hRy.below hb3
  replace HTa := Lib.hid (HTa.out.below hb3 HTa.out.lt)
  replace hRa := hRa.below hb3
  replace HTx := Lib.hid (HTx.out.alloc (.cells #[.slice A3 B3.length c3, .int .i64 ((k : Nat) : Int)] 24))
  replace hRx := hRx.alloc (.cells #[.slice A3 B3.length c3, .int .i64 ((k : Nat) : Int)] 24)
  replace HTy := Lib.hid (HTy.out.alloc (.cells #[.slice A3 B3.length c3, .int .i64 ((k : Nat) : Int)] 24))
  replace hRy := hRy.alloc (.cells #[.slice A3 B3.length c3, .int .i64 ((k : Nat) : Int)] 24)
  replace HTa := Lib.hid (HTa.out.alloc (.cells #[.slice A3 B3.length c3, .int .i64 ((k : Nat) : Int)] 24))
  replace hRa := hRa.alloc (.cells #[.slice A3 B3.length c3, .int .i64 ((k : Nat) : Int)] 24)
  replace hRb := hRb.alloc (.cells #[.slice A3 B3.length c3, .int .i64 ((k : Nat) : Int)] 24)
  have HTb := Lib.hid (genBlk (w := w3) (t := 24) (cs := #[.slice A3 B3.length c3, .int .i64 ((k : Nat) : Int)]))
  have hbwz3 : Below w.heap.size w _ := hbw3.alloc hbw3.size (.cells #[.slice A3 B3.length c3, .int .i64 ((k : Nat) : Int)] 24)
  have HP3 := Lib.hid hp3
  have HL3 := Lib.hid hl3
  clear own3 hb3 hp3 hl3
  clear HTx HTy hRx hRy
  have hB2 : B2.length ≤ 2000 := by have := HP2.out.len; have := HM.out; omega
  have hB3 : B3.length ≤ 2000 := by have := HP3.out.len; have := HK.out; omega
  have HPA := Lib.hid (fun (x : Nat) (hx : U64 (x : Int)) wx (h : Rd wx A2 B2) => by
    have := put_sound A2 c2 B2 L x W wx h HP2.out (by omega) hx hW64
    rw [HM.out] at this
    exact this)
  have HPB := Lib.hid (fun (x : Nat) (hx : U64 (x : Int)) wx (h : Rd wx A3 B3) => by
    have := put_sound A3 c3 B3 M x W wx h HP3.out (by omega) hx hW64
    rw [HK.out] at this
    exact this)
  have c0a := HTa.out.cell 0
  have c1a := HTa.out.cell 1
  have c0b := HTb.out.cell 0
  have c1b := HTb.out.cell 1
  go_wp2_with fail
  refine (HPA.out vn hv _ hRa).mono ?_
  rintro e w4 ⟨A4, c4, B4, rfl, hp4, own4, hb4⟩
  clear c0a c1a c0b c1b
  have hl4 : (L ++ nbits vn W).length = mW := by rw [List.length_append, nbits_length, HM.out, HMW.out]
  rw [hl4]
  have hRp := Rd.of_own own4
  have hbw4 := hbwz3.trans (hb4.mono hbwz3.size)
  replace HTa := Lib.hid (HTa.out.below hb4 HTa.out.lt)
  replace hRa := hRa.below hb4
  replace HTb := Lib.hid (HTb.out.below hb4 HTb.out.lt)
  replace hRb := hRb.below hb4
  replace HTa := Lib.hid (HTa.out.alloc (.cells #[.slice A4 B4.length c4, .int .i64 ((mW : Nat) : Int)] 24))
  replace hRa := hRa.alloc (.cells #[.slice A4 B4.length c4, .int .i64 ((mW : Nat) : Int)] 24)
  replace HTb := Lib.hid (HTb.out.alloc (.cells #[.slice A4 B4.length c4, .int .i64 ((mW : Nat) : Int)] 24))
  replace hRb := hRb.alloc (.cells #[.slice A4 B4.length c4, .int .i64 ((mW : Nat) : Int)] 24)
  replace hRp := hRp.alloc (.cells #[.slice A4 B4.length c4, .int .i64 ((mW : Nat) : Int)] 24)
  have HTp := Lib.hid (genBlk (w := w4) (t := 24) (cs := #[.slice A4 B4.length c4, .int .i64 ((mW : Nat) : Int)]))
  have hbwz4 : Below w.heap.size w _ := hbw4.alloc hbw4.size (.cells #[.slice A4 B4.length c4, .int .i64 ((mW : Nat) : Int)] 24)
  have HP4 := Lib.hid hp4
  have HL4 := Lib.hid hl4
  clear own4 hb4 hp4 hl4
  have c0a := HTa.out.cell 0
  have c1a := HTa.out.cell 1
  have c0b := HTb.out.cell 0
  have c1b := HTb.out.cell 1
  have c0p := HTp.out.cell 0
  have c1p := HTp.out.cell 1
  go_wp2_with fail
  refine (HPB.out vn hv _ hRb).mono ?_
  rintro e w5 ⟨A5, c5, B5, rfl, hp5, own5, hb5⟩
  clear c0a c1a c0b c1b c0p c1p
  have hl5 : (M ++ nbits vn W).length = kW := by rw [List.length_append, nbits_length, HK.out, HKW.out]
  rw [hl5]
  have hRq := Rd.of_own own5
  have hbw5 := hbwz4.trans (hb5.mono hbwz4.size)
  replace HTa := Lib.hid (HTa.out.below hb5 HTa.out.lt)
  replace hRa := hRa.below hb5
  replace HTb := Lib.hid (HTb.out.below hb5 HTb.out.lt)
  replace hRb := hRb.below hb5
  replace HTp := Lib.hid (HTp.out.below hb5 HTp.out.lt)
  replace hRp := hRp.below hb5
  replace HTa := Lib.hid (HTa.out.alloc (.cells #[.slice A5 B5.length c5, .int .i64 ((kW : Nat) : Int)] 24))
  replace hRa := hRa.alloc (.cells #[.slice A5 B5.length c5, .int .i64 ((kW : Nat) : Int)] 24)
  replace HTb := Lib.hid (HTb.out.alloc (.cells #[.slice A5 B5.length c5, .int .i64 ((kW : Nat) : Int)] 24))
  replace hRb := hRb.alloc (.cells #[.slice A5 B5.length c5, .int .i64 ((kW : Nat) : Int)] 24)
  replace HTp := Lib.hid (HTp.out.alloc (.cells #[.slice A5 B5.length c5, .int .i64 ((kW : Nat) : Int)] 24))
  replace hRp := hRp.alloc (.cells #[.slice A5 B5.length c5, .int .i64 ((kW : Nat) : Int)] 24)
  replace hRq := hRq.alloc (.cells #[.slice A5 B5.length c5, .int .i64 ((kW : Nat) : Int)] 24)
  have HTq := Lib.hid (genBlk (w := w5) (t := 24) (cs := #[.slice A5 B5.length c5, .int .i64 ((kW : Nat) : Int)]))
  have hbwz5 : Below w.heap.size w _ := hbw5.alloc hbw5.size (.cells #[.slice A5 B5.length c5, .int .i64 ((kW : Nat) : Int)] 24)
  have HP5 := Lib.hid hp5
  have HL5 := Lib.hid hl5
  clear own5 hb5 hp5 hl5
  have c0a := HTa.out.cell 0
  have c1a := HTa.out.cell 1
  have c0b := HTb.out.cell 0
  have c1b := HTb.out.cell 1
  have c0p := HTp.out.cell 0
  have c1p := HTp.out.cell 1
  have c0q := HTq.out.cell 0
  have c1q := HTq.out.cell 1
  go_wp2_with fail
  refine (HPA.out un hu _ hRa).mono ?_
  rintro e w6 ⟨A6, c6, B6, rfl, hp6, own6, hb6⟩
  clear c0a c1a c0b c1b c0p c1p c0q c1q
  have hl6 : (L ++ nbits un W).length = mW := by rw [List.length_append, nbits_length, HM.out, HMW.out]
  rw [hl6]
  have hRr := Rd.of_own own6
  have hbw6 := hbwz5.trans (hb6.mono hbwz5.size)
  replace HTa := Lib.hid (HTa.out.below hb6 HTa.out.lt)
  replace hRa := hRa.below hb6
  replace HTb := Lib.hid (HTb.out.below hb6 HTb.out.lt)
  replace hRb := hRb.below hb6
  replace HTp := Lib.hid (HTp.out.below hb6 HTp.out.lt)
  replace hRp := hRp.below hb6
  replace HTq := Lib.hid (HTq.out.below hb6 HTq.out.lt)
  replace hRq := hRq.below hb6
  replace HTa := Lib.hid (HTa.out.alloc (.cells #[.slice A6 B6.length c6, .int .i64 ((mW : Nat) : Int)] 24))
  replace hRa := hRa.alloc (.cells #[.slice A6 B6.length c6, .int .i64 ((mW : Nat) : Int)] 24)
  replace HTb := Lib.hid (HTb.out.alloc (.cells #[.slice A6 B6.length c6, .int .i64 ((mW : Nat) : Int)] 24))
  replace hRb := hRb.alloc (.cells #[.slice A6 B6.length c6, .int .i64 ((mW : Nat) : Int)] 24)
  replace HTp := Lib.hid (HTp.out.alloc (.cells #[.slice A6 B6.length c6, .int .i64 ((mW : Nat) : Int)] 24))
  replace hRp := hRp.alloc (.cells #[.slice A6 B6.length c6, .int .i64 ((mW : Nat) : Int)] 24)
  replace HTq := Lib.hid (HTq.out.alloc (.cells #[.slice A6 B6.length c6, .int .i64 ((mW : Nat) : Int)] 24))
  replace hRq := hRq.alloc (.cells #[.slice A6 B6.length c6, .int .i64 ((mW : Nat) : Int)] 24)
  replace hRr := hRr.alloc (.cells #[.slice A6 B6.length c6, .int .i64 ((mW : Nat) : Int)] 24)
  have HTr := Lib.hid (genBlk (w := w6) (t := 24) (cs := #[.slice A6 B6.length c6, .int .i64 ((mW : Nat) : Int)]))
  have hbwz6 : Below w.heap.size w _ := hbw6.alloc hbw6.size (.cells #[.slice A6 B6.length c6, .int .i64 ((mW : Nat) : Int)] 24)
  have HP6 := Lib.hid hp6
  have HL6 := Lib.hid hl6
  clear own6 hb6 hp6 hl6
  obtain ⟨wz, hwz⟩ : ∃ wz, w6.alloc (.cells #[.slice A6 B6.length c6, .int .i64 ((mW : Nat) : Int)] 24) = wz := ⟨_, rfl⟩
  rw [hwz] at HTa hRa HTb hRb HTp hRp HTq hRq HTr hRr hbwz6
  have HWZ := Lib.hid hwz
  clear hwz
  have HE1 : Hid (decide (L ++ nbits vn W = M ++ nbits vn W) = decide (L = M)) := Lib.hid (by rw [decide_eq_decide, append_left_iff])
  have HE2 : Hid (decide (L ++ nbits vn W = L ++ nbits un W) = decide (vn % 2 ^ W = un % 2 ^ W)) := Lib.hid (nbits_same L vn un W)
  obtain ⟨S, hS⟩ : ∃ S, decide (vn % 2 ^ W = un % 2 ^ W) = S := ⟨_, rfl⟩
  obtain ⟨E, hE⟩ : ∃ E, decide (L = M) = E := ⟨_, rfl⟩
  rw [hS] at HE2
  rw [hE] at HE1
  have HS := Lib.hid hS
  have HE := Lib.hid hE
  clear hS hE
  go_upto_if 68 with fail
  go_cut [20] (fun s20 wx => s20 = .bool S ∧ ∃ k, wx = wz.drewN k)
  case first =>
    by_cases h64 : W < 64
    · have hd64 : decide (W < 64) = true := by simp; omega
      have hPW := pow_fits h64
      have hPn : ¬ (2 : Int) ^ W = 0 := Int.ne_of_gt (Int.pow_pos (by omega))
      have hd0 : decide ((2 : Int) ^ W = 0) = false := decide_eq_false hPn
      go_wp2_with fail
      go_region
      all_goals (go_wp2_with fail; go_meet)
      all_goals exact ⟨by rw [mod_same, HS.out], 1, by rw [HWZ.out]; rfl⟩
    · have hd64 : decide (W < 64) = false := by simp; omega
      go_wp2_with fail
      go_meet
      exact ⟨by rw [mod_all h64 hW64 hv hu, HS.out], 0, by rw [HWZ.out]; rfl⟩
  case rest =>
    obtain ⟨rfl, kk, hkk⟩ := hcut
    replace HTa := Lib.hid (HTa.out.drewN kk)
    replace hRa := hRa.drewN kk
    rw [← hkk] at HTa hRa
    have la := HTa.out.lt
    replace HTb := Lib.hid (HTb.out.drewN kk)
    replace hRb := hRb.drewN kk
    rw [← hkk] at HTb hRb
    have lb := HTb.out.lt
    replace HTp := Lib.hid (HTp.out.drewN kk)
    replace hRp := hRp.drewN kk
    rw [← hkk] at HTp hRp
    have lp := HTp.out.lt
    replace HTq := Lib.hid (HTq.out.drewN kk)
    replace hRq := hRq.drewN kk
    rw [← hkk] at HTq hRq
    have lq := HTq.out.lt
    replace HTr := Lib.hid (HTr.out.drewN kk)
    replace hRr := hRr.drewN kk
    rw [← hkk] at HTr hRr
    have lr := HTr.out.lt
    have hbwx : Below w.heap.size w (wz.drewN kk) := below_drewN hbwz6 kk
    rw [← hkk] at hbwx
    clear hkk hbwz6
    have HK0 : Hid ((wc.cell? ⟨w2.heap.size, 0, none⟩ = some (.slice A2 B2.length c2) ∧ wc.cell? ⟨w2.heap.size, 1, none⟩ = some (.int .i64 (m : Int))) ∧ (wc.cell? ⟨w3.heap.size, 0, none⟩ = some (.slice A3 B3.length c3) ∧ wc.cell? ⟨w3.heap.size, 1, none⟩ = some (.int .i64 (k : Int))) ∧ (wc.cell? ⟨w4.heap.size, 0, none⟩ = some (.slice A4 B4.length c4) ∧ wc.cell? ⟨w4.heap.size, 1, none⟩ = some (.int .i64 (mW : Int))) ∧ (wc.cell? ⟨w5.heap.size, 0, none⟩ = some (.slice A5 B5.length c5) ∧ wc.cell? ⟨w5.heap.size, 1, none⟩ = some (.int .i64 (kW : Int))) ∧ (wc.cell? ⟨w6.heap.size, 0, none⟩ = some (.slice A6 B6.length c6) ∧ wc.cell? ⟨w6.heap.size, 1, none⟩ = some (.int .i64 (mW : Int)))) := Lib.hid ⟨⟨HTa.out.cell 0, HTa.out.cell 1⟩, ⟨HTb.out.cell 0, HTb.out.cell 1⟩, ⟨HTp.out.cell 0, HTp.out.cell 1⟩, ⟨HTq.out.cell 0, HTq.out.cell 1⟩, ⟨HTr.out.cell 0, HTr.out.cell 1⟩⟩
    have HS1 := Lib.hid (fun wx (h1 : Rd wx A4 B4) (h2 : Rd wx A5 B5) => same_packs (c1 := c4) (c2 := c5) HP4.out HP5.out HL4.out HL5.out E HE1.out wx h1 h2)
    have HS2 := Lib.hid (fun wx (h1 : Rd wx A2 B2) (h2 : Rd wx A3 B3) => same_packs (c1 := c2) (c2 := c3) HP2.out HP3.out HL2.out HL3.out E HE.out wx h1 h2)
    have HS3 := Lib.hid (fun wx (h1 : Rd wx A4 B4) (h2 : Rd wx A6 B6) => same_packs (c1 := c4) (c2 := c6) HP4.out HP6.out HL4.out HL6.out S HE2.out wx h1 h2)
    go_upto_region 12 with fail
    have c0a := HTa.out.cell 0
    have c1a := HTa.out.cell 1
    have c0b := HTb.out.cell 0
    have c1b := HTb.out.cell 1
    have c0p := HTp.out.cell 0
    have c1p := HTp.out.cell 1
    have c0q := HTq.out.cell 0
    have c1q := HTq.out.cell 1
    have c0r := HTr.out.cell 0
    have c1r := HTr.out.cell 1
    go_region_held3 (fun w' => (w'.cell? ⟨w2.heap.size, 0, none⟩ = some (.slice A2 B2.length c2) ∧ w'.cell? ⟨w2.heap.size, 1, none⟩ = some (.int .i64 (m : Int))) ∧ (w'.cell? ⟨w3.heap.size, 0, none⟩ = some (.slice A3 B3.length c3) ∧ w'.cell? ⟨w3.heap.size, 1, none⟩ = some (.int .i64 (k : Int))) ∧ (w'.cell? ⟨w4.heap.size, 0, none⟩ = some (.slice A4 B4.length c4) ∧ w'.cell? ⟨w4.heap.size, 1, none⟩ = some (.int .i64 (mW : Int))) ∧ (w'.cell? ⟨w5.heap.size, 0, none⟩ = some (.slice A5 B5.length c5) ∧ w'.cell? ⟨w5.heap.size, 1, none⟩ = some (.int .i64 (kW : Int))) ∧ (w'.cell? ⟨w6.heap.size, 0, none⟩ = some (.slice A6 B6.length c6) ∧ w'.cell? ⟨w6.heap.size, 1, none⟩ = some (.int .i64 (mW : Int))))
      (first | go_keep | (exact HK0.out) | (exact hS7) | (exact hS8) | (exact hS9))
      ((first
        | (go_at_call 15; ((with_reducible refine (HS1.out _ ?_ ?_).mono ?_); (exact hRp); (exact hRq); rintro e w7 ⟨rfl, hb7⟩; have hS7 := And.intro (box2 hb7 la HK0.out.1) (And.intro (box2 hb7 lb HK0.out.2.1) (And.intro (box2 hb7 lp HK0.out.2.2.1) (And.intro (box2 hb7 lq HK0.out.2.2.2.1) (box2 hb7 lr HK0.out.2.2.2.2)))); have hRa7 := hRa.drew.below hb7; have hRb7 := hRb.drew.below hb7; have hRp7 := hRp.drew.below hb7; have hRq7 := hRq.drew.below hb7; have hRr7 := hRr.drew.below hb7))
        | (go_at_call 15; ((with_reducible refine (HS2.out _ ?_ ?_).mono ?_); (exact hRa7); (exact hRb7); rintro e w8 ⟨rfl, hb8⟩; have hS8 := And.intro (box2 hb8 (Nat.lt_of_lt_of_le la hb7.size) hS7.1) (And.intro (box2 hb8 (Nat.lt_of_lt_of_le lb hb7.size) hS7.2.1) (And.intro (box2 hb8 (Nat.lt_of_lt_of_le lp hb7.size) hS7.2.2.1) (And.intro (box2 hb8 (Nat.lt_of_lt_of_le lq hb7.size) hS7.2.2.2.1) (box2 hb8 (Nat.lt_of_lt_of_le lr hb7.size) hS7.2.2.2.2)))); have hRa8 := hRa7.below hb8; have hRb8 := hRb7.below hb8; have hRp8 := hRp7.below hb8; have hRq8 := hRq7.below hb8; have hRr8 := hRr7.below hb8))
        | (go_at_call 15; ((with_reducible refine (HS3.out _ ?_ ?_).mono ?_); (exact hRp8); (exact hRr8); rintro e w9 ⟨rfl, hb9⟩; have hS9 := And.intro (box2 hb9 (Nat.lt_of_lt_of_le la (Nat.le_trans hb7.size hb8.size)) hS8.1) (And.intro (box2 hb9 (Nat.lt_of_lt_of_le lb (Nat.le_trans hb7.size hb8.size)) hS8.2.1) (And.intro (box2 hb9 (Nat.lt_of_lt_of_le lp (Nat.le_trans hb7.size hb8.size)) hS8.2.2.1) (And.intro (box2 hb9 (Nat.lt_of_lt_of_le lq (Nat.le_trans hb7.size hb8.size)) hS8.2.2.2.1) (box2 hb9 (Nat.lt_of_lt_of_le lr (Nat.le_trans hb7.size hb8.size)) hS8.2.2.2.2))))))))
    all_goals
      go_wp2_with fail
      go_ret
      have h7 := hbwx.drew.trans (hb7.mono hbwx.size)
      have h8 := h7.trans (hb8.mono h7.size)
      exact ⟨rfl, h8.trans (hb9.mono h8.size)⟩

set_option maxRecDepth 100000 in
theorem lifted_BitApart (os : Os) (started : os.Started) (H : Type) (enc : TypeId × Value → H) :
    ReturnsInHanded {} Try.checked os 3 .any (Rows.bitApartSpec.pre6 enc Try.prog Try.f3 Rows.bitApartRow.domain false) (Rows.bitApartSpec.post enc Try.prog Try.f3 false true false false) := by
  refine returnsInHanded_of_change (C := Try.checked) own started (by kernel_rfl) Try.func3
    (ChangeSpec.witness6 (enc := enc) (C := Try.checked) false ⟨#[], #[.agg #[.slice none 0 0, .int .i64 0], .agg #[.slice none 0 0, .int .i64 0], .int .u64 0, .int .u64 0, .int .u8 0], []⟩ 8 (by kernel_rfl) (by kernel_rfl) (by kernel_rfl) (by kernel_rfl)) ?_
  intro W base args ds gs before hval0 hW hcnd _
  have hval : ∀ (j : Nat) t v, Try.f3.params[j]? = some t → args[j]? = some v → Value.okWide Try.prog W .any base t v := hval0
  have hW' := hW
  obtain ⟨p, q, hA0, hV, rfl, hfz, hnd⟩ := hW
  have hA : DataW.TrodAll enc Try.prog W 0 (fun _ => true) true Try.f3.params.toList args.toList ds p := hA0
  rw [Try.params3] at hA hval
  obtain ⟨v0, vs0, d0, ds0, p0, q0, hargs, rfl, rfl, h0, r0⟩ := trodAll_cons hA
  obtain ⟨v1, vs1, d1, ds1, p1, q1, rfl, rfl, rfl, h1, r1⟩ := trodAll_cons r0
  obtain ⟨v2, vs2, d2, ds2, p2, q2, rfl, rfl, rfl, h2, r2⟩ := trodAll_cons r1
  obtain ⟨v3, vs3, d3, ds3, p3, q3, rfl, rfl, rfl, h3, r3⟩ := trodAll_cons r2
  obtain ⟨v4, vs4, d4, ds4, p4, q4, rfl, rfl, rfl, h4, r4⟩ := trodAll_cons r3
  obtain ⟨rfl, rfl, rfl⟩ := trodAll_nil r4
  obtain rfl : args = #[v0, v1, v2, v3, v4] := by cases args; simp_all
  obtain ⟨rfl, rfl⟩ := trodVars_none hV
  have k0 := h0
  have lt0 : ∀ x ∈ p0, x.block < W.heap.size := by obtain ⟨m, hm⟩ := k0; exact DataW.trod_lt m _ _ _ hm
  obtain ⟨A0, c0, B0, N0, rfl, rd0, by0, rg0⟩ := open_bits (hval 0 24 v0 rfl rfl) h0
  have k1 := h1
  have lt1 : ∀ x ∈ p1, x.block < W.heap.size := by obtain ⟨m, hm⟩ := k1; exact DataW.trod_lt m _ _ _ hm
  obtain ⟨A1, c1, B1, N1, rfl, rd1, by1, rg1⟩ := open_bits (hval 1 24 v1 rfl rfl) h1
  obtain ⟨a2, rfl, rfl, rfl, w2⟩ := open_int Try.underlying25 (hval 2 25 v2 rfl rfl) h2
  obtain ⟨a3, rfl, rfl, rfl, w3⟩ := open_int Try.underlying25 (hval 3 25 v3 rfl rfl) h3
  obtain ⟨a4, rfl, rfl, rfl, w4⟩ := open_int Try.underlying5 (hval 4 5 v4 rfl rfl) h4
  clear hA0 hval0
  refine (walk_BitApart W A0 c0 B0 N0 rd0 by0 rg0 A1 c1 B1 N1 rd1 by1 rg1 a2 (range_u64 w2) a3 (range_u64 w3) a4 (range_u8 w4)).mono fun e W' ⟨he, bel⟩ => ?_
  subst he
  exact ⟨_, rfl, _, _, _, [], _, [], hW', trodAll_mk1 (shut_bool Try.underlying4 _), (trodAll_cons_mk (Below.trod laidOut (by kernel_rfl) (of_decide_eq_true (by kernel_rfl)) k0 bel lt0) (trodAll_cons_mk (Below.trod laidOut (by kernel_rfl) (of_decide_eq_true (by kernel_rfl)) k1 bel lt1) (trodAll_cons_mk (shut_int Try.underlying25 w2) (trodAll_cons_mk (shut_int Try.underlying25 w3) (trodAll_cons_mk (shut_int Try.underlying5 w4) trodAll_mk0))))), rfl, bel.frame _, fun h => by cases h⟩

theorem over_BitApart : Rows.bitApartRow.holds Try.pinned (OpenSpec.ofChange Rows.bitApartSpec) :=
  OpenClaim.holds_of_wide 3 Try.f3 rfl rfl rfl rfl rfl rfl rfl ⟨rfl, rfl, rfl, rfl, rfl⟩ rfl rfl rfl rfl rfl (by kernel_rfl) Try.func3 (by kernel_rfl)
    (of_decide_eq_true (by kernel_rfl)) (by unfold Func.isWrapper; first | (rw [if_pos (by decide +kernel)]; kernel_rfl) | (rw [if_neg (by decide +kernel)]; exact ⟨rfl, rfl⟩))
    (fun os started H enc _ => lifted_BitApart os started H enc)

theorem bitApart_holds : Rows.BitApartSaid := over_BitApart

#print axioms bitApart_holds
end Go.Proofs.Ytifjanlcfjajpaa
