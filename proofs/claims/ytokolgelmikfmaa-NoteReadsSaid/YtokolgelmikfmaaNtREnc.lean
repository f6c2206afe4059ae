/-
  The reference's Encode: a note as bytes.
-/
import Derived.Test.YtokolgelmikfmaaNtEnc
import Derived.Test.YtokolgelmikfmaaNtRPut
import Derived.Test.YtokolgelmikfmaaNtRMay
namespace Go.Proofs.Ytokolgelmikfmaa
open Go.RowKit Pl
set_option linter.unusedVariables false

theorem rput_at (base : Nat) (A : Option Addr) (c n m : Nat) (B : List Int) (v W : Nat) (w : World) (hown : w.ownsRow base 5 1 (.slice A n c) n (u8s B)) (hv : U64 v) (hW : W ≤ 8) (hn : n ≤ 100000) (hm : n + W = m) (hbs : base ≤ w.heap.size) :
    Calls Try.prog 18 #[.slice A n c, .int .u64 v, .int .i64 W] w fun e w' => ∃ A c, e = .returned (.slice A m c) ∧ w'.ownsRow base 5 1 (.slice A m c) m (u8s (B ++ be W v)) ∧ Below base w w' ∧ Keeps w w' := by
  have hl := own_len hown
  subst hm
  subst hl
  refine (rput_any base A c B v W w hown hv hW (by omega) hbs).mono ?_
  rintro e w' ⟨A', c', h1, h2, h3, h4⟩
  have h : (B ++ be W v).length = B.length + W := by rw [List.length_append, be_length]
  rw [h] at h1 h2
  exact ⟨A', c', h1, h2, h3, h4⟩
theorem rplace_at (base : Nat) (A : Option Addr) (c n m : Nat) (B : List Int) (cc b k : Int) (hc : U32 cc) (hb : U32 b) (hk : U32 k) (w : World) (hown : w.ownsRow base 5 1 (.slice A n c) n (u8s B)) (hn : n ≤ 100000) (hm : n + 12 = m) (hbs : base ≤ w.heap.size) :
    Calls Try.prog 19 #[.slice A n c, .agg #[.int .u32 cc, .int .u32 b, .int .u32 k]] w fun e w' => ∃ A c, e = .returned (.slice A m c) ∧ w'.ownsRow base 5 1 (.slice A m c) m (u8s (B ++ (be 4 cc.toNat ++ (be 4 b.toNat ++ be 4 k.toNat)))) ∧ Below base w w' ∧ Keeps w w' := by
  have hl := own_len hown
  subst hm
  subst hl
  refine (rplace_any base A c B cc b k hc hb hk w hown (by omega) hbs).mono ?_
  rintro e w' ⟨A', c', h1, h2, h3, h4⟩
  have h : (B ++ (be 4 cc.toNat ++ (be 4 b.toNat ++ be 4 k.toNat))).length = B.length + 12 := by simp [be_length]
  rw [h] at h1 h2
  exact ⟨A', c', h1, h2, h3, h4⟩

set_option maxRecDepth 100000 in
set_option maxHeartbeats 2000000 in
theorem rencode_none (x : Nt) (hx : x.Ok) (hl : (x.B.length : Int) ≤ 1000000) (hm : mayB x = false) (A : Option Addr) (c : Nat) (w : World) (hr : Rd w A x.B) :
    Calls Try.prog 10 #[nv x A c] w (RetBytes .i64 [] 110 w) := by
  have M := fun wx (h : Rd wx A x.B) => rmay_any x hx hl A c wx h
  rw [hm] at M
  have HM := Lib.hid M
  clear M hm hx hl
  obtain ⟨k, e, s, t, v, cc, b, m, n, z, B, N⟩ := x
  unfold nv at HM ⊢
  simp only at hr HM ⊢
  obtain ⟨bl, hbl⟩ : ∃ n, B.length = n := ⟨_, rfl⟩
  rw [hbl] at HM ⊢
  clear hbl
  go_enter Try.func10, Try.ntmps10
  go_wp2_with fail
  refine (HM.out _ (hr.alloc _)).mono ?_
  rintro e w1 ⟨rfl, hb1⟩
  go_wp2_with fail
  go_ret2
  exact ⟨none, 0, rfl, World.ownsRow_nil _ _ _ _, ((Below.refl _ _).alloc (Nat.le_refl _) _).trans (hb1.mono (by simp))⟩

set_option maxRecDepth 100000 in
set_option maxHeartbeats 4000000 in
theorem rencode_one (x : Nt) (hx : x.Ok) (hl : (x.B.length : Int) ≤ 1000000) (hm : mayB x = true) (hk : x.k = 1) (A : Option Addr) (c : Nat) (w : World) (hr : Rd w A x.B) :
    Calls Try.prog 10 #[nv x A c] w (RetBytes .i64 (enc x) 0 w) := by
  have M := fun wx (h : Rd wx A x.B) => rmay_any x hx hl A c wx h
  rw [hm] at M
  have HM := Lib.hid M
  obtain ⟨hk0, he, hs, ht, hv, hc, hb, hmm, hn, hB, hN⟩ := hx
  have hmay := hm
  obtain ⟨L, hL⟩ : ∃ L, enc x = L := ⟨_, rfl⟩
  rw [hL]
  clear M hm
  obtain ⟨k, e, s, t, v, cc, b, m, n, z, B, N⟩ := x
  simp only at hk he hs ht hv hc hb hmm hn hB hN hl hr
  subst hk
  obtain ⟨e, rfl⟩ : ∃ q : Nat, e = (q : Int) := ⟨e.toNat, by simp only [U32] at he; omega⟩
  have h32e : (e : Int) < 4294967296 := he.2
  have HVe : Hid (U64 (e : Int)) := Lib.hid (by simp only [U64]; omega)
  have HL : Hid (L = [1] ++ be 4 e) := Lib.hid (by rw [← hL]; simp [enc])
  unfold nv at HM ⊢
  simp only at HM ⊢
  obtain ⟨bl, hbl⟩ : ∃ n, B.length = n := ⟨_, rfl⟩
  rw [hbl] at HM ⊢
  have HC := Lib.hid hc
  have HBB := Lib.hid hb
  have HMM := Lib.hid hmm
  clear hbl hmay hL hk0 ht hc hb hmm hB hl he hs hv hn hN
  go_enter Try.func10, Try.ntmps10
  go_wp2_with fail
  refine (HM.out _ (hr.alloc _)).mono ?_
  rintro e w1 ⟨rfl, hb1⟩
  have hblk0 := (Blk.new w _ _).below hb1 (by simp)
  have x0 := cells12 hblk0
  have hbw1 : Below w.heap.size w w1 := ((Below.refl _ _).alloc (Nat.le_refl _) _).trans (hb1.mono (by simp))
  have hlt : w.heap.size < w1.heap.size := hblk0.lt
  have HX := Lib.hid hblk0
  have hown1 : (w1.alloc (.cells #[.int .u8 1] 5)).ownsRow w.heap.size 5 1 (.slice (some ⟨w1.heap.size, 0, none⟩) 1 1) 1 (u8s [1]) := World.ownsRow_lit (e := 5) (size := 1) w1 #[.int .u8 1] 1 hbw1.size (by decide) rfl
  have HX1 := Lib.hid (HX.out.alloc (.cells #[.int .u8 1] 5))
  have HB1 := Lib.hid (hbw1.alloc hbw1.size (.cells #[.int .u8 1] 5))
  have HO1 := Lib.hid hown1
  clear hb1 hblk0 hown1 HX hbw1 HM
  obtain ⟨L1, hL1⟩ : ∃ M : List Int, [(1 : Int)] = M := ⟨_, rfl⟩
  rw [hL1] at HL HO1
  clear hL1
  go_wp2_with fail
  refine (rput_at w.heap.size _ _ 1 5 L1 e 4 _ HO1.out (HVe.out) (by decide) (by decide) (by decide) HB1.out.size).mono ?_
  rintro e w2 ⟨A2, c2, rfl, hown2, hb2, hk2⟩
  have HX2 := Lib.hid (hk2 _ _ _ (by decide) (by decide) HX1.out)
  have HB2 := Lib.hid (HB1.out.trans hb2)
  clear x0 HX1 HO1 HB1 hb2 hk2
  have x0 := cells12 HX2.out
  obtain ⟨L2, hL2⟩ : ∃ M, L1 ++ be 4 e = M := ⟨_, rfl⟩
  rw [hL2] at hown2 HL
  have HO2 := Lib.hid hown2
  clear hown2 hL2
  have hlen : L.length = 5 := by rw [HL.out]; exact own_len HO2.out
  have HLEN := Lib.hid hlen
  clear hlen
  go_wp2_with fail
  go_ret2
  refine ⟨A2, c2, ?_, ?_, HB2.out⟩
  · rw [HLEN.out]; rfl
  · rw [HLEN.out, HL.out]; exact HO2.out

set_option maxRecDepth 100000 in
set_option maxHeartbeats 4000000 in
theorem rencode_two (x : Nt) (hx : x.Ok) (hl : (x.B.length : Int) ≤ 1000000) (hm : mayB x = true) (hk : x.k = 2) (A : Option Addr) (c : Nat) (w : World) (hr : Rd w A x.B) :
    Calls Try.prog 10 #[nv x A c] w (RetBytes .i64 (enc x) 0 w) := by
  have M := fun wx (h : Rd wx A x.B) => rmay_any x hx hl A c wx h
  rw [hm] at M
  have HM := Lib.hid M
  obtain ⟨hk0, he, hs, ht, hv, hc, hb, hmm, hn, hB, hN⟩ := hx
  have hmay := hm
  obtain ⟨L, hL⟩ : ∃ L, enc x = L := ⟨_, rfl⟩
  rw [hL]
  clear M hm
  obtain ⟨k, e, s, t, v, cc, b, m, n, z, B, N⟩ := x
  simp only at hk he hs ht hv hc hb hmm hn hB hN hl hr
  subst hk
  obtain ⟨s, rfl⟩ : ∃ q : Nat, s = (q : Int) := ⟨s.toNat, by simp only [U32] at hs; omega⟩
  have h32s : (s : Int) < 4294967296 := hs.2
  have HVs : Hid (U64 (s : Int)) := Lib.hid (by simp only [U64]; omega)
  obtain ⟨y, hy⟩ : ∃ y, u64of t = y := ⟨_, rfl⟩
  have hyt : IntKind.u64.wrap t = (y : Int) := by rw [wrap_u64, ← hy]; unfold u64of; omega
  have hy64 : U64 (y : Int) := by have := u64of_lt t; rw [hy] at this; simp only [U64]; omega
  obtain ⟨q, rfl⟩ : ∃ q : Nat, v = (q : Int) := ⟨v.toNat, by simp only [U64] at hv; omega⟩
  have HY := Lib.hid hy64
  have HQ := Lib.hid hv
  clear hy64
  have HL : Hid (L = (([2] ++ be 4 s) ++ be 8 y) ++ be 8 q) := Lib.hid (by rw [← hL]; simp [enc, hy])
  unfold nv at HM ⊢
  simp only at HM ⊢
  obtain ⟨bl, hbl⟩ : ∃ n, B.length = n := ⟨_, rfl⟩
  rw [hbl] at HM ⊢
  have HC := Lib.hid hc
  have HBB := Lib.hid hb
  have HMM := Lib.hid hmm
  clear hy hbl hmay hL hk0 ht hc hb hmm hB hl he hs hv hn hN
  go_enter Try.func10, Try.ntmps10
  go_wp2_with fail
  refine (HM.out _ (hr.alloc _)).mono ?_
  rintro e w1 ⟨rfl, hb1⟩
  have hblk0 := (Blk.new w _ _).below hb1 (by simp)
  have x0 := cells12 hblk0
  have hbw1 : Below w.heap.size w w1 := ((Below.refl _ _).alloc (Nat.le_refl _) _).trans (hb1.mono (by simp))
  have hlt : w.heap.size < w1.heap.size := hblk0.lt
  have HX := Lib.hid hblk0
  have hown1 : (w1.alloc (.cells #[.int .u8 2] 5)).ownsRow w.heap.size 5 1 (.slice (some ⟨w1.heap.size, 0, none⟩) 1 1) 1 (u8s [2]) := World.ownsRow_lit (e := 5) (size := 1) w1 #[.int .u8 2] 1 hbw1.size (by decide) rfl
  have HX1 := Lib.hid (HX.out.alloc (.cells #[.int .u8 2] 5))
  have HB1 := Lib.hid (hbw1.alloc hbw1.size (.cells #[.int .u8 2] 5))
  have HO1 := Lib.hid hown1
  clear hb1 hblk0 hown1 HX hbw1 HM
  obtain ⟨L1, hL1⟩ : ∃ M : List Int, [(2 : Int)] = M := ⟨_, rfl⟩
  rw [hL1] at HL HO1
  clear hL1
  go_wp2_with fail
  refine (rput_at w.heap.size _ _ 1 5 L1 s 4 _ HO1.out (HVs.out) (by decide) (by decide) (by decide) HB1.out.size).mono ?_
  rintro e w2 ⟨A2, c2, rfl, hown2, hb2, hk2⟩
  have HX2 := Lib.hid (hk2 _ _ _ (by decide) (by decide) HX1.out)
  have HB2 := Lib.hid (HB1.out.trans hb2)
  clear x0 HX1 HO1 HB1 hb2 hk2
  have x0 := cells12 HX2.out
  obtain ⟨L2, hL2⟩ : ∃ M, L1 ++ be 4 s = M := ⟨_, rfl⟩
  rw [hL2] at hown2 HL
  have HO2 := Lib.hid hown2
  clear hown2 hL2
  go_wp2_with fail
  refine (rput_at w.heap.size _ _ 5 13 L2 y 8 _ HO2.out (HY.out) (by decide) (by decide) (by decide) HB2.out.size).mono ?_
  rintro e w3 ⟨A3, c3, rfl, hown3, hb3, hk3⟩
  have HX3 := Lib.hid (hk3 _ _ _ (by decide) (by decide) HX2.out)
  have HB3 := Lib.hid (HB2.out.trans hb3)
  clear x0 HX2 HO2 HB2 hb3 hk3
  have x0 := cells12 HX3.out
  obtain ⟨L3, hL3⟩ : ∃ M, L2 ++ be 8 y = M := ⟨_, rfl⟩
  rw [hL3] at hown3 HL
  have HO3 := Lib.hid hown3
  clear hown3 hL3
  go_wp2_with fail
  refine (rput_at w.heap.size _ _ 13 21 L3 q 8 _ HO3.out (HQ.out) (by decide) (by decide) (by decide) HB3.out.size).mono ?_
  rintro e w4 ⟨A4, c4, rfl, hown4, hb4, hk4⟩
  have HX4 := Lib.hid (hk4 _ _ _ (by decide) (by decide) HX3.out)
  have HB4 := Lib.hid (HB3.out.trans hb4)
  clear x0 HX3 HO3 HB3 hb4 hk4
  have x0 := cells12 HX4.out
  obtain ⟨L4, hL4⟩ : ∃ M, L3 ++ be 8 q = M := ⟨_, rfl⟩
  rw [hL4] at hown4 HL
  have HO4 := Lib.hid hown4
  clear hown4 hL4
  have hlen : L.length = 21 := by rw [HL.out]; exact own_len HO4.out
  have HLEN := Lib.hid hlen
  clear hlen
  go_wp2_with fail
  go_ret2
  refine ⟨A4, c4, ?_, ?_, HB4.out⟩
  · rw [HLEN.out]; rfl
  · rw [HLEN.out, HL.out]; exact HO4.out

set_option maxRecDepth 100000 in
set_option maxHeartbeats 4000000 in
theorem rencode_three (x : Nt) (hx : x.Ok) (hl : (x.B.length : Int) ≤ 1000000) (hm : mayB x = true) (hk : x.k = 3) (A : Option Addr) (c : Nat) (w : World) (hr : Rd w A x.B) :
    Calls Try.prog 10 #[nv x A c] w (RetBytes .i64 (enc x) 0 w) := by
  have M := fun wx (h : Rd wx A x.B) => rmay_any x hx hl A c wx h
  rw [hm] at M
  have HM := Lib.hid M
  obtain ⟨hk0, he, hs, ht, hv, hc, hb, hmm, hn, hB, hN⟩ := hx
  have hmay := hm
  obtain ⟨L, hL⟩ : ∃ L, enc x = L := ⟨_, rfl⟩
  rw [hL]
  clear M hm
  obtain ⟨k, e, s, t, v, cc, b, m, n, z, B, N⟩ := x
  simp only at hk he hs ht hv hc hb hmm hn hB hN hl hr
  subst hk
  obtain ⟨s, rfl⟩ : ∃ q : Nat, s = (q : Int) := ⟨s.toNat, by simp only [U32] at hs; omega⟩
  have h32s : (s : Int) < 4294967296 := hs.2
  have HVs : Hid (U64 (s : Int)) := Lib.hid (by simp only [U64]; omega)
  have HL : Hid (L = ([3] ++ be 4 s) ++ (be 4 cc.toNat ++ (be 4 b.toNat ++ be 4 m.toNat))) := Lib.hid (by rw [← hL]; simp [enc])
  unfold nv at HM ⊢
  simp only at HM ⊢
  obtain ⟨bl, hbl⟩ : ∃ n, B.length = n := ⟨_, rfl⟩
  rw [hbl] at HM ⊢
  have HC := Lib.hid hc
  have HBB := Lib.hid hb
  have HMM := Lib.hid hmm
  clear hbl hmay hL hk0 ht hc hb hmm hB hl he hs hv hn hN
  go_enter Try.func10, Try.ntmps10
  go_wp2_with fail
  refine (HM.out _ (hr.alloc _)).mono ?_
  rintro e w1 ⟨rfl, hb1⟩
  have hblk0 := (Blk.new w _ _).below hb1 (by simp)
  have x0 := cells12 hblk0
  have hbw1 : Below w.heap.size w w1 := ((Below.refl _ _).alloc (Nat.le_refl _) _).trans (hb1.mono (by simp))
  have hlt : w.heap.size < w1.heap.size := hblk0.lt
  have HX := Lib.hid hblk0
  have hown1 : (w1.alloc (.cells #[.int .u8 3] 5)).ownsRow w.heap.size 5 1 (.slice (some ⟨w1.heap.size, 0, none⟩) 1 1) 1 (u8s [3]) := World.ownsRow_lit (e := 5) (size := 1) w1 #[.int .u8 3] 1 hbw1.size (by decide) rfl
  have HX1 := Lib.hid (HX.out.alloc (.cells #[.int .u8 3] 5))
  have HB1 := Lib.hid (hbw1.alloc hbw1.size (.cells #[.int .u8 3] 5))
  have HO1 := Lib.hid hown1
  clear hb1 hblk0 hown1 HX hbw1 HM
  obtain ⟨L1, hL1⟩ : ∃ M : List Int, [(3 : Int)] = M := ⟨_, rfl⟩
  rw [hL1] at HL HO1
  clear hL1
  go_wp2_with fail
  refine (rput_at w.heap.size _ _ 1 5 L1 s 4 _ HO1.out (HVs.out) (by decide) (by decide) (by decide) HB1.out.size).mono ?_
  rintro e w2 ⟨A2, c2, rfl, hown2, hb2, hk2⟩
  have HX2 := Lib.hid (hk2 _ _ _ (by decide) (by decide) HX1.out)
  have HB2 := Lib.hid (HB1.out.trans hb2)
  clear x0 HX1 HO1 HB1 hb2 hk2
  have x0 := cells12 HX2.out
  obtain ⟨L2, hL2⟩ : ∃ M, L1 ++ be 4 s = M := ⟨_, rfl⟩
  rw [hL2] at hown2 HL
  have HO2 := Lib.hid hown2
  clear hown2 hL2
  go_wp2_with fail
  refine (rplace_at w.heap.size _ _ 5 17 L2 cc b m HC.out HBB.out HMM.out _ HO2.out (by decide) (by decide) HB2.out.size).mono ?_
  rintro e w3 ⟨A3, c3, rfl, hown3, hb3, hk3⟩
  have HX3 := Lib.hid (hk3 _ _ _ (by decide) (by decide) HX2.out)
  have HB3 := Lib.hid (HB2.out.trans hb3)
  clear x0 HX2 HO2 HB2 hb3 hk3
  have x0 := cells12 HX3.out
  obtain ⟨L3, hL3⟩ : ∃ M, L2 ++ (be 4 cc.toNat ++ (be 4 b.toNat ++ be 4 m.toNat)) = M := ⟨_, rfl⟩
  rw [hL3] at hown3 HL
  have HO3 := Lib.hid hown3
  clear hown3 hL3
  have hlen : L.length = 17 := by rw [HL.out]; exact own_len HO3.out
  have HLEN := Lib.hid hlen
  clear hlen
  go_wp2_with fail
  go_ret2
  refine ⟨A3, c3, ?_, ?_, HB3.out⟩
  · rw [HLEN.out]; rfl
  · rw [HLEN.out, HL.out]; exact HO3.out

set_option maxRecDepth 100000 in
set_option maxHeartbeats 4000000 in
theorem rencode_four_false (x : Nt) (hx : x.Ok) (hl : (x.B.length : Int) ≤ 1000000) (hm : mayB x = true) (hk : x.k = 4) (hz : x.z = false) (A : Option Addr) (c : Nat) (w : World) (hr : Rd w A x.B) :
    Calls Try.prog 10 #[nv x A c] w (RetBytes .i64 (enc x) 0 w) := by
  have M := fun wx (h : Rd wx A x.B) => rmay_any x hx hl A c wx h
  rw [hm] at M
  have HM := Lib.hid M
  obtain ⟨hk0, he, hs, ht, hv, hc, hb, hmm, hn, hB, hN⟩ := hx
  have hmay := hm
  obtain ⟨L, hL⟩ : ∃ L, enc x = L := ⟨_, rfl⟩
  rw [hL]
  clear M hm
  obtain ⟨k, e, s, t, v, cc, b, m, n, z, B, N⟩ := x
  simp only at hk he hs ht hv hc hb hmm hn hB hN hl hr hz
  subst hk
  have hN0 : 0 < N ∧ N ≤ 4000 ∧ B.length ≤ 500 := by
    simp only [mayB, Bool.and_eq_true, decide_eq_true_eq, show ¬ (4 : Int) = 1 from by decide, show ¬ (4 : Int) = 2 from by decide, show ¬ (4 : Int) = 3 from by decide, if_false, if_true] at hmay
    have h2 := snd_small hmay.2.2.2.2.2 hmay.2.2.2.2.1
    exact ⟨hmay.2.2.2.1, h2.2, hmay.2.2.2.2.1⟩
  obtain ⟨s, rfl⟩ : ∃ q : Nat, s = (q : Int) := ⟨s.toNat, by simp only [U32] at hs; omega⟩
  have h32s : (s : Int) < 4294967296 := hs.2
  have HVs : Hid (U64 (s : Int)) := Lib.hid (by simp only [U64]; omega)
  obtain ⟨n, rfl⟩ : ∃ q : Nat, n = (q : Int) := ⟨n.toNat, by simp only [U32] at hn; omega⟩
  have h32n : (n : Int) < 4294967296 := hn.2
  have HVn : Hid (U64 (n : Int)) := Lib.hid (by simp only [U64]; omega)
  obtain ⟨q, rfl⟩ : ∃ q : Nat, N = (q : Int) := ⟨N.toNat, by omega⟩
  have hq : (q : Int) ≤ 4000 := hN0.2.1
  have hBl := hN0.2.2
  have hqw : IntKind.u64.wrap (q : Int) = (q : Int) := by rw [wrap_u64]; omega
  have HQ : Hid (U64 (q : Int)) := Lib.hid (by simp only [U64]; omega)
  clear hN0
  subst hz
  have HL : Hid (L = ((((([4] ++ be 4 s) ++ (be 4 cc.toNat ++ (be 4 b.toNat ++ be 4 m.toNat))) ++ be 4 n) ++ [0]) ++ be 2 q) ++ B) := Lib.hid (by rw [← hL]; simp [enc]; rfl)
  unfold nv at HM ⊢
  simp only at HM ⊢
  obtain ⟨bl, hbl⟩ : ∃ n, B.length = n := ⟨_, rfl⟩
  rw [hbl] at HM ⊢
  have HC := Lib.hid hc
  have HBB := Lib.hid hb
  have HMM := Lib.hid hmm
  clear hmay hL hk0 ht hc hb hmm hB  he hs hv hn hN
  go_enter Try.func10, Try.ntmps10
  go_wp2_with fail
  refine (HM.out _ (hr.alloc _)).mono ?_
  rintro e w1 ⟨rfl, hb1⟩
  have hblk0 := (Blk.new w _ _).below hb1 (by simp)
  have x0 := cells12 hblk0
  have hbw1 : Below w.heap.size w w1 := ((Below.refl _ _).alloc (Nat.le_refl _) _).trans (hb1.mono (by simp))
  have hlt : w.heap.size < w1.heap.size := hblk0.lt
  have HX := Lib.hid hblk0
  have hown1 : (w1.alloc (.cells #[.int .u8 4] 5)).ownsRow w.heap.size 5 1 (.slice (some ⟨w1.heap.size, 0, none⟩) 1 1) 1 (u8s [4]) := World.ownsRow_lit (e := 5) (size := 1) w1 #[.int .u8 4] 1 hbw1.size (by decide) rfl
  have HX1 := Lib.hid (HX.out.alloc (.cells #[.int .u8 4] 5))
  have HB1 := Lib.hid (hbw1.alloc hbw1.size (.cells #[.int .u8 4] 5))
  have HO1 := Lib.hid hown1
  clear hb1 hblk0 hown1 HX hbw1 HM
  obtain ⟨L1, hL1⟩ : ∃ M : List Int, [(4 : Int)] = M := ⟨_, rfl⟩
  rw [hL1] at HL HO1
  clear hL1
  go_wp2_with fail
  refine (rput_at w.heap.size _ _ 1 5 L1 s 4 _ HO1.out (HVs.out) (by decide) (by decide) (by decide) HB1.out.size).mono ?_
  rintro e w2 ⟨A2, c2, rfl, hown2, hb2, hk2⟩
  have HX2 := Lib.hid (hk2 _ _ _ (by decide) (by decide) HX1.out)
  have HB2 := Lib.hid (HB1.out.trans hb2)
  clear x0 HX1 HO1 HB1 hb2 hk2
  have x0 := cells12 HX2.out
  obtain ⟨L2, hL2⟩ : ∃ M, L1 ++ be 4 s = M := ⟨_, rfl⟩
  rw [hL2] at hown2 HL
  have HO2 := Lib.hid hown2
  clear hown2 hL2
  go_wp2_with fail
  refine (rplace_at w.heap.size _ _ 5 17 L2 cc b m HC.out HBB.out HMM.out _ HO2.out (by decide) (by decide) HB2.out.size).mono ?_
  rintro e w3 ⟨A3, c3, rfl, hown3, hb3, hk3⟩
  have HX3 := Lib.hid (hk3 _ _ _ (by decide) (by decide) HX2.out)
  have HB3 := Lib.hid (HB2.out.trans hb3)
  clear x0 HX2 HO2 HB2 hb3 hk3
  have x0 := cells12 HX3.out
  obtain ⟨L3, hL3⟩ : ∃ M, L2 ++ (be 4 cc.toNat ++ (be 4 b.toNat ++ be 4 m.toNat)) = M := ⟨_, rfl⟩
  rw [hL3] at hown3 HL
  have HO3 := Lib.hid hown3
  clear hown3 hL3
  go_wp2_with fail
  refine (rput_at w.heap.size _ _ 17 21 L3 n 4 _ HO3.out (HVn.out) (by decide) (by decide) (by decide) HB3.out.size).mono ?_
  rintro e w4 ⟨A4, c4, rfl, hown4, hb4, hk4⟩
  have HX4 := Lib.hid (hk4 _ _ _ (by decide) (by decide) HX3.out)
  have HB4 := Lib.hid (HB3.out.trans hb4)
  clear x0 HX3 HO3 HB3 hb4 hk4
  have x0 := cells12 HX4.out
  obtain ⟨L4, hL4⟩ : ∃ M, L3 ++ be 4 n = M := ⟨_, rfl⟩
  rw [hL4] at hown4 HL
  have HO4 := Lib.hid hown4
  clear hown4 hL4
  obtain ⟨i0, hi, hz0, hz1, hz2⟩ := info_parts info_u8
  clear h32s h32n
  have HMX : Hid (21 + 1 ≤ maxLen) := Lib.hid (by unfold maxLen; omega)
  have HBY : Hid ((21 + 1) * 1 ≤ 140737488355328) := Lib.hid (by omega)
  have hltb : w.heap.size < w4.heap.size := HX4.out.lt
  have HSZ : Hid (w.heap.size ≤ (w4.alloc (.cells #[.int .u8 0] 5)).heap.size) := Lib.hid (by have := HB4.out.size; simp; omega)
  go_wp2_with (at_builtin; refine wpList_append_lies _ rfl _ _ 28 rfl w.heap.size 5 i0 (.int .u8 0) 1 1 Try.underlying28 hi hz0 hz1 hz2 rfl (by decide) (.slice A4 21 c4) 21 (u8s L4) rfl (HO4.out.alloc _) ⟨w4.heap.size, 0, none⟩ 1 1 [_] rfl rfl (World.news_of_block (heap_alloc_new w4 _)) (by simp [Value.oneCell']) (by decide) HMX.out HBY.out HSZ.out (w4.heap.size + 1) (by simp) ?_; intro gg cap w5 hown5 hgrow hat1 hlt1; have HX5 := Lib.hid ((HX4.out.alloc (.cells #[.int .u8 0] 5)).grown hgrow (fun e => own_blk_ne (HO4.out.alloc (.cells #[.int .u8 0] 5)) (HX4.out.alloc (.cells #[.int .u8 0] 5)) (by decide) e.symm)); have HB5 := Lib.hid ((HB4.out.alloc HB4.out.size (.cells #[.int .u8 0] 5)).grown hgrow HSZ.out (fun k hk => ((HO4.out.lt k hk).1))); clear x0 HX4 hgrow hat1 hlt1; have x0 := cells12 HX5.out)
  obtain ⟨L5, hL5⟩ : ∃ M : List Int, L4 ++ [(0 : Int)] = M := ⟨_, rfl⟩
  have ho5 : w5.ownsRow w.heap.size 5 1 (.slice (some ⟨gg, 0, none⟩) 22 cap) 22 (u8s L5) := by rw [← hL5, u8s_append]; exact hown5
  rw [hL5] at HL
  have HO5 := Lib.hid ho5
  clear hL5 ho5 hown5 HO4 HB4 HSZ hi hz0 hz1 hz2
  go_wp2_with fail
  refine (rput_at w.heap.size _ _ 22 24 L5 q 2 _ HO5.out (HQ.out) (by decide) (by decide) (by decide) HB5.out.size).mono ?_
  rintro e w6 ⟨A6, c6, rfl, hown6, hb6, hk6⟩
  have HX6 := Lib.hid (hk6 _ _ _ (by decide) (by decide) HX5.out)
  have HB6 := Lib.hid (HB5.out.trans hb6)
  clear x0 HX5 HO5 HB5 hb6 hk6
  have x0 := cells12 HX6.out
  obtain ⟨L6, hL6⟩ : ∃ M, L5 ++ be 2 q = M := ⟨_, rfl⟩
  rw [hL6] at hown6 HL
  have HO6 := Lib.hid hown6
  clear hown6 hL6
  have hrd := hr.below HB6.out
  obtain ⟨i0, hi, hz0, hz1, hz2⟩ := info_parts info_u8
  have HRD := Lib.hid hrd
  have HH : Hid (24 + B.length ≤ 140737488355328) := Lib.hid (by omega)
  have HLEN : Hid (L.length = 24 + bl) := Lib.hid (by rw [HL.out, List.length_append, own_len HO6.out, hbl])
  have HLB := Lib.hid hbl
  clear hrd hr
  subst hbl
  go_wp2_with (at_builtin; refine wpList_append_rd _ rfl _ _ 28 rfl w.heap.size 5 i0 (.int .u8 0) Try.underlying28 hi hz0 hz1 hz2 rfl (.slice A6 24 c6) 24 (u8s L6) rfl HO6.out A c B rfl HRD.out HH.out HB6.out.size ?_; intro v' w9 hown9 hgrow hat)
  obtain ⟨A9, c9, hv9, _⟩ := own_shape hown9
  subst hv9
  have HB9 := Lib.hid (HB6.out.grown hgrow HB6.out.size (fun k hk => ((HO6.out.lt k hk).1)))
  have HO9 := Lib.hid hown9
  clear hown9 hgrow hat x0 HX6
  go_wp2_with fail
  go_ret2
  refine ⟨A9, c9, ?_, ?_, HB9.out⟩
  · rw [HLEN.out]; rfl
  · rw [HLEN.out, HL.out, u8s_append]; exact HO9.out

set_option maxRecDepth 100000 in
set_option maxHeartbeats 4000000 in
theorem rencode_four_true (x : Nt) (hx : x.Ok) (hl : (x.B.length : Int) ≤ 1000000) (hm : mayB x = true) (hk : x.k = 4) (hz : x.z = true) (A : Option Addr) (c : Nat) (w : World) (hr : Rd w A x.B) :
    Calls Try.prog 10 #[nv x A c] w (RetBytes .i64 (enc x) 0 w) := by
  have M := fun wx (h : Rd wx A x.B) => rmay_any x hx hl A c wx h
  rw [hm] at M
  have HM := Lib.hid M
  obtain ⟨hk0, he, hs, ht, hv, hc, hb, hmm, hn, hB, hN⟩ := hx
  have hmay := hm
  obtain ⟨L, hL⟩ : ∃ L, enc x = L := ⟨_, rfl⟩
  rw [hL]
  clear M hm
  obtain ⟨k, e, s, t, v, cc, b, m, n, z, B, N⟩ := x
  simp only at hk he hs ht hv hc hb hmm hn hB hN hl hr hz
  subst hk
  have hN0 : 0 < N ∧ N ≤ 4000 ∧ B.length ≤ 500 := by
    simp only [mayB, Bool.and_eq_true, decide_eq_true_eq, show ¬ (4 : Int) = 1 from by decide, show ¬ (4 : Int) = 2 from by decide, show ¬ (4 : Int) = 3 from by decide, if_false, if_true] at hmay
    have h2 := snd_small hmay.2.2.2.2.2 hmay.2.2.2.2.1
    exact ⟨hmay.2.2.2.1, h2.2, hmay.2.2.2.2.1⟩
  obtain ⟨s, rfl⟩ : ∃ q : Nat, s = (q : Int) := ⟨s.toNat, by simp only [U32] at hs; omega⟩
  have h32s : (s : Int) < 4294967296 := hs.2
  have HVs : Hid (U64 (s : Int)) := Lib.hid (by simp only [U64]; omega)
  obtain ⟨n, rfl⟩ : ∃ q : Nat, n = (q : Int) := ⟨n.toNat, by simp only [U32] at hn; omega⟩
  have h32n : (n : Int) < 4294967296 := hn.2
  have HVn : Hid (U64 (n : Int)) := Lib.hid (by simp only [U64]; omega)
  obtain ⟨q, rfl⟩ : ∃ q : Nat, N = (q : Int) := ⟨N.toNat, by omega⟩
  have hq : (q : Int) ≤ 4000 := hN0.2.1
  have hBl := hN0.2.2
  have hqw : IntKind.u64.wrap (q : Int) = (q : Int) := by rw [wrap_u64]; omega
  have HQ : Hid (U64 (q : Int)) := Lib.hid (by simp only [U64]; omega)
  clear hN0
  subst hz
  have HL : Hid (L = ((((([4] ++ be 4 s) ++ (be 4 cc.toNat ++ (be 4 b.toNat ++ be 4 m.toNat))) ++ be 4 n) ++ [1]) ++ be 2 q) ++ B) := Lib.hid (by rw [← hL]; simp [enc]; rfl)
  unfold nv at HM ⊢
  simp only at HM ⊢
  obtain ⟨bl, hbl⟩ : ∃ n, B.length = n := ⟨_, rfl⟩
  rw [hbl] at HM ⊢
  have HC := Lib.hid hc
  have HBB := Lib.hid hb
  have HMM := Lib.hid hmm
  clear hmay hL hk0 ht hc hb hmm hB  he hs hv hn hN
  go_enter Try.func10, Try.ntmps10
  go_wp2_with fail
  refine (HM.out _ (hr.alloc _)).mono ?_
  rintro e w1 ⟨rfl, hb1⟩
  have hblk0 := (Blk.new w _ _).below hb1 (by simp)
  have x0 := cells12 hblk0
  have hbw1 : Below w.heap.size w w1 := ((Below.refl _ _).alloc (Nat.le_refl _) _).trans (hb1.mono (by simp))
  have hlt : w.heap.size < w1.heap.size := hblk0.lt
  have HX := Lib.hid hblk0
  have hown1 : (w1.alloc (.cells #[.int .u8 4] 5)).ownsRow w.heap.size 5 1 (.slice (some ⟨w1.heap.size, 0, none⟩) 1 1) 1 (u8s [4]) := World.ownsRow_lit (e := 5) (size := 1) w1 #[.int .u8 4] 1 hbw1.size (by decide) rfl
  have HX1 := Lib.hid (HX.out.alloc (.cells #[.int .u8 4] 5))
  have HB1 := Lib.hid (hbw1.alloc hbw1.size (.cells #[.int .u8 4] 5))
  have HO1 := Lib.hid hown1
  clear hb1 hblk0 hown1 HX hbw1 HM
  obtain ⟨L1, hL1⟩ : ∃ M : List Int, [(4 : Int)] = M := ⟨_, rfl⟩
  rw [hL1] at HL HO1
  clear hL1
  go_wp2_with fail
  refine (rput_at w.heap.size _ _ 1 5 L1 s 4 _ HO1.out (HVs.out) (by decide) (by decide) (by decide) HB1.out.size).mono ?_
  rintro e w2 ⟨A2, c2, rfl, hown2, hb2, hk2⟩
  have HX2 := Lib.hid (hk2 _ _ _ (by decide) (by decide) HX1.out)
  have HB2 := Lib.hid (HB1.out.trans hb2)
  clear x0 HX1 HO1 HB1 hb2 hk2
  have x0 := cells12 HX2.out
  obtain ⟨L2, hL2⟩ : ∃ M, L1 ++ be 4 s = M := ⟨_, rfl⟩
  rw [hL2] at hown2 HL
  have HO2 := Lib.hid hown2
  clear hown2 hL2
  go_wp2_with fail
  refine (rplace_at w.heap.size _ _ 5 17 L2 cc b m HC.out HBB.out HMM.out _ HO2.out (by decide) (by decide) HB2.out.size).mono ?_
  rintro e w3 ⟨A3, c3, rfl, hown3, hb3, hk3⟩
  have HX3 := Lib.hid (hk3 _ _ _ (by decide) (by decide) HX2.out)
  have HB3 := Lib.hid (HB2.out.trans hb3)
  clear x0 HX2 HO2 HB2 hb3 hk3
  have x0 := cells12 HX3.out
  obtain ⟨L3, hL3⟩ : ∃ M, L2 ++ (be 4 cc.toNat ++ (be 4 b.toNat ++ be 4 m.toNat)) = M := ⟨_, rfl⟩
  rw [hL3] at hown3 HL
  have HO3 := Lib.hid hown3
  clear hown3 hL3
  go_wp2_with fail
  refine (rput_at w.heap.size _ _ 17 21 L3 n 4 _ HO3.out (HVn.out) (by decide) (by decide) (by decide) HB3.out.size).mono ?_
  rintro e w4 ⟨A4, c4, rfl, hown4, hb4, hk4⟩
  have HX4 := Lib.hid (hk4 _ _ _ (by decide) (by decide) HX3.out)
  have HB4 := Lib.hid (HB3.out.trans hb4)
  clear x0 HX3 HO3 HB3 hb4 hk4
  have x0 := cells12 HX4.out
  obtain ⟨L4, hL4⟩ : ∃ M, L3 ++ be 4 n = M := ⟨_, rfl⟩
  rw [hL4] at hown4 HL
  have HO4 := Lib.hid hown4
  clear hown4 hL4
  obtain ⟨i0, hi, hz0, hz1, hz2⟩ := info_parts info_u8
  clear h32s h32n
  have HMX : Hid (21 + 1 ≤ maxLen) := Lib.hid (by unfold maxLen; omega)
  have HBY : Hid ((21 + 1) * 1 ≤ 140737488355328) := Lib.hid (by omega)
  have hltb : w.heap.size < w4.heap.size := HX4.out.lt
  have HSZ : Hid (w.heap.size ≤ (w4.alloc (.cells #[.int .u8 1] 5)).heap.size) := Lib.hid (by have := HB4.out.size; simp; omega)
  go_wp2_with (at_builtin; refine wpList_append_lies _ rfl _ _ 28 rfl w.heap.size 5 i0 (.int .u8 0) 1 1 Try.underlying28 hi hz0 hz1 hz2 rfl (by decide) (.slice A4 21 c4) 21 (u8s L4) rfl (HO4.out.alloc _) ⟨w4.heap.size, 0, none⟩ 1 1 [_] rfl rfl (World.news_of_block (heap_alloc_new w4 _)) (by simp [Value.oneCell']) (by decide) HMX.out HBY.out HSZ.out (w4.heap.size + 1) (by simp) ?_; intro gg cap w5 hown5 hgrow hat1 hlt1; have HX5 := Lib.hid ((HX4.out.alloc (.cells #[.int .u8 1] 5)).grown hgrow (fun e => own_blk_ne (HO4.out.alloc (.cells #[.int .u8 1] 5)) (HX4.out.alloc (.cells #[.int .u8 1] 5)) (by decide) e.symm)); have HB5 := Lib.hid ((HB4.out.alloc HB4.out.size (.cells #[.int .u8 1] 5)).grown hgrow HSZ.out (fun k hk => ((HO4.out.lt k hk).1))); clear x0 HX4 hgrow hat1 hlt1; have x0 := cells12 HX5.out)
  obtain ⟨L5, hL5⟩ : ∃ M : List Int, L4 ++ [(1 : Int)] = M := ⟨_, rfl⟩
  have ho5 : w5.ownsRow w.heap.size 5 1 (.slice (some ⟨gg, 0, none⟩) 22 cap) 22 (u8s L5) := by rw [← hL5, u8s_append]; exact hown5
  rw [hL5] at HL
  have HO5 := Lib.hid ho5
  clear hL5 ho5 hown5 HO4 HB4 HSZ hi hz0 hz1 hz2
  go_wp2_with fail
  refine (rput_at w.heap.size _ _ 22 24 L5 q 2 _ HO5.out (HQ.out) (by decide) (by decide) (by decide) HB5.out.size).mono ?_
  rintro e w6 ⟨A6, c6, rfl, hown6, hb6, hk6⟩
  have HX6 := Lib.hid (hk6 _ _ _ (by decide) (by decide) HX5.out)
  have HB6 := Lib.hid (HB5.out.trans hb6)
  clear x0 HX5 HO5 HB5 hb6 hk6
  have x0 := cells12 HX6.out
  obtain ⟨L6, hL6⟩ : ∃ M, L5 ++ be 2 q = M := ⟨_, rfl⟩
  rw [hL6] at hown6 HL
  have HO6 := Lib.hid hown6
  clear hown6 hL6
  have hrd := hr.below HB6.out
  obtain ⟨i0, hi, hz0, hz1, hz2⟩ := info_parts info_u8
  have HRD := Lib.hid hrd
  have HH : Hid (24 + B.length ≤ 140737488355328) := Lib.hid (by omega)
  have HLEN : Hid (L.length = 24 + bl) := Lib.hid (by rw [HL.out, List.length_append, own_len HO6.out, hbl])
  have HLB := Lib.hid hbl
  clear hrd hr
  subst hbl
  go_wp2_with (at_builtin; refine wpList_append_rd _ rfl _ _ 28 rfl w.heap.size 5 i0 (.int .u8 0) Try.underlying28 hi hz0 hz1 hz2 rfl (.slice A6 24 c6) 24 (u8s L6) rfl HO6.out A c B rfl HRD.out HH.out HB6.out.size ?_; intro v' w9 hown9 hgrow hat)
  obtain ⟨A9, c9, hv9, _⟩ := own_shape hown9
  subst hv9
  have HB9 := Lib.hid (HB6.out.grown hgrow HB6.out.size (fun k hk => ((HO6.out.lt k hk).1)))
  have HO9 := Lib.hid hown9
  clear hown9 hgrow hat x0 HX6
  go_wp2_with fail
  go_ret2
  refine ⟨A9, c9, ?_, ?_, HB9.out⟩
  · rw [HLEN.out]; rfl
  · rw [HLEN.out, HL.out, u8s_append]; exact HO9.out

theorem rencode_may (x : Nt) (hx : x.Ok) (hl : (x.B.length : Int) ≤ 1000000) (hm : mayB x = true) (A : Option Addr) (c : Nat) (w : World) (hr : Rd w A x.B) :
    Calls Try.prog 10 #[nv x A c] w (RetBytes .i64 (enc x) 0 w) := by
  rcases may_kind hm with h | h | h | h
  · exact rencode_one x hx hl hm h A c w hr
  · exact rencode_two x hx hl hm h A c w hr
  · exact rencode_three x hx hl hm h A c w hr
  · cases hz : x.z
    · exact rencode_four_false x hx hl hm h hz A c w hr
    · exact rencode_four_true x hx hl hm h hz A c w hr
theorem rencode_any (x : Nt) (hx : x.Ok) (hl : (x.B.length : Int) ≤ 1000000) (A : Option Addr) (c : Nat) (w : World) (hr : Rd w A x.B) :
    Calls Try.prog 10 #[nv x A c] w (RetBytes .i64 (if mayB x then enc x else []) (if mayB x then 0 else 110) w) := by
  cases hm : mayB x
  · exact rencode_none x hx hl hm A c w hr
  · exact rencode_may x hx hl hm A c w hr
end Go.Proofs.Ytokolgelmikfmaa
