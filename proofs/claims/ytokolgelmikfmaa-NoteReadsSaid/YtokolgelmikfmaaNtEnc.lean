/-
  note.Encode: a note as bytes.
-/
import Derived.Test.YtokolgelmikfmaaNtW
namespace Go.Proofs.Ytokolgelmikfmaa
open Go.RowKit Pl
set_option linter.unusedVariables false

/-- The call answers these bytes in a row of its own, and this error. -/
def RetBytes (k : IntKind) (B : List Int) (x : Int) (w : World) (e : Ending) (w' : World) : Prop :=
  ∃ A c, e = .returned (.tuple #[.slice A B.length c, .int k x]) ∧ w'.ownsRow w.heap.size 5 1 (.slice A B.length c) B.length (u8s B) ∧ Below w.heap.size w w'

theorem Wn.new {w : World} {base : Nat} (k : Int) (hb : base ≤ w.heap.size) :
    Wn ((w.alloc (.cells #[.int .u8 k] 5)).alloc (.cells #[.slice (some ⟨w.heap.size, 0, none⟩) 1 1] 50)) base (w.heap.size + 1) [k] := by
  refine ⟨_, 1, 1, blk_at (by simp), by omega, ?_⟩
  have := World.ownsRow_lit (e := 5) (size := 1) w #[.int .u8 k] 1 hb (by decide) rfl
  exact this.alloc _
theorem Wn.alloc {w : World} {base gw : Nat} {L : List Int} (h : Wn w base gw L) (o : Obj) : Wn (w.alloc o) base gw L := by
  obtain ⟨A, n, c, hb, hbs, ho⟩ := h
  exact ⟨A, n, c, hb.alloc o, hbs, ho.alloc o⟩
theorem Wn.out {w : World} {base gw : Nat} {L : List Int} (h : Wn w base gw L) : ∃ A c, Blk w gw 50 #[.slice A L.length c] ∧ base ≤ gw ∧ w.ownsRow base 5 1 (.slice A L.length c) L.length (u8s L) := by
  obtain ⟨A, n, c, hb, hbs, ho⟩ := h
  have := own_len ho
  subst this
  exact ⟨A, c, hb, hbs, ho⟩

set_option maxRecDepth 100000 in
set_option maxHeartbeats 2000000 in
theorem encode_none (x : Nt) (hx : x.Ok) (hl : (x.B.length : Int) ≤ 1000000) (hm : mayB x = false) (A : Option Addr) (c : Nat) (w : World) (hr : Rd w A x.B) :
    Calls Try.prog 9 #[nv x A c] w (RetBytes .u16 [] 110 w) := by
  have M := fun wx (h : Rd wx A x.B) => may_any x hx hl A c wx h
  rw [hm] at M
  have HM := Lib.hid M
  clear M hm hx hl
  obtain ⟨k, e, s, t, v, cc, b, m, n, z, B, N⟩ := x
  unfold nv at HM ⊢
  simp only at hr HM ⊢
  obtain ⟨bl, hbl⟩ : ∃ n, B.length = n := ⟨_, rfl⟩
  rw [hbl] at HM ⊢
  clear hbl
  go_enter Try.func9, Try.ntmps9
  go_wp2_with fail
  refine (HM.out _ (hr.alloc _)).mono ?_
  rintro e w1 ⟨rfl, hb1⟩
  go_wp2_with fail
  go_ret2
  exact ⟨none, 0, rfl, World.ownsRow_nil _ _ _ _, ((Below.refl _ _).alloc (Nat.le_refl _) _).trans (hb1.mono (by simp))⟩

set_option maxRecDepth 100000 in
set_option maxHeartbeats 4000000 in
theorem encode_one (x : Nt) (hx : x.Ok) (hl : (x.B.length : Int) ≤ 1000000) (hm : mayB x = true) (hk : x.k = 1) (A : Option Addr) (c : Nat) (w : World) (hr : Rd w A x.B) :
    Calls Try.prog 9 #[nv x A c] w (RetBytes .u16 (enc x) 0 w) := by
  have M := fun wx (h : Rd wx A x.B) => may_any x hx hl A c wx h
  rw [hm] at M
  have HM := Lib.hid M
  obtain ⟨hk0, he, hs, ht, hv, hc, hb, hmm, hn, hB, hN⟩ := hx
  have hmay := hm
  obtain ⟨L, hL⟩ : ∃ L, enc x = L := ⟨_, rfl⟩
  rw [hL]
  clear M hm
  obtain ⟨k, e, s, t, v, cc, b, m, n, z, B, N⟩ := x
  simp only at hk he hs ht hv hc hb hmm hn hB hN hl hr
  subst hk
  have HL : Hid (L = [1] ++ fours [e]) := Lib.hid (by rw [← hL]; simp [enc, fours])
  unfold nv at HM ⊢
  simp only at HM ⊢
  have HF : Hid (∀ y ∈ [e], U32 y) := Lib.hid (by intro y hy; simp at hy; rcases hy with rfl <;> assumption)
  obtain ⟨bl, hbl⟩ : ∃ n, B.length = n := ⟨_, rfl⟩
  rw [hbl] at HM ⊢
  clear hbl hmay hL hk0 he hs ht hv hc hb hmm hn hB hN hl
  go_enter Try.func9, Try.ntmps9
  go_wp2_with fail
  refine (HM.out _ (hr.alloc _)).mono ?_
  rintro e w1 ⟨rfl, hb1⟩
  have hblk0 := (Blk.new w _ _).below hb1 (by simp)
  have x0 := cells12 hblk0
  have hbw : Below w.heap.size w w1 := ((Below.refl _ _).alloc (Nat.le_refl _) _).trans (hb1.mono (by simp))
  have hlt : w.heap.size < w1.heap.size := hblk0.lt
  have hlt2 : w.heap.size < w1.heap.size + 1 := by omega
  have hlt3 : w.heap.size < w1.heap.size + 1 + 1 := by omega
  have HX := Lib.hid hblk0
  clear hb1 hblk0
  have hwn0 := (((Wn.new (w := w1) (base := w1.heap.size) 1 (Nat.le_refl _)).alloc (.cells #[.int .u32 cc, .int .u32 b, .int .u32 m] 27)).alloc (.cells #[.int .u32 e] 22))
  have hg : Blk ((((w1.alloc (.cells #[.int .u8 1] 5)).alloc (.cells #[.slice (some ⟨w1.heap.size, 0, none⟩) 1 1] 50)).alloc (.cells #[.int .u32 cc, .int .u32 b, .int .u32 m] 27)).alloc (.cells #[.int .u32 e] 22)) (w1.heap.size + 3) 22 (u32s [e]).toArray := blk_at (by simp)
  have HX1 := Lib.hid ((((HX.out.alloc (.cells #[.int .u8 1] 5)).alloc (.cells #[.slice (some ⟨w1.heap.size, 0, none⟩) 1 1] 50)).alloc (.cells #[.int .u32 cc, .int .u32 b, .int .u32 m] 27)).alloc (.cells #[.int .u32 e] 22))
  have HWN := Lib.hid hwn0
  have HG := Lib.hid hg
  have hbe : Below w1.heap.size w1 ((((w1.alloc (.cells #[.int .u8 1] 5)).alloc (.cells #[.slice (some ⟨w1.heap.size, 0, none⟩) 1 1] 50)).alloc (.cells #[.int .u32 cc, .int .u32 b, .int .u32 m] 27)).alloc (.cells #[.int .u32 e] 22)) := ((((Below.refl _ _).alloc (Nat.le_refl _) _).alloc (by simp) _).alloc (by simp; omega) _).alloc (by simp; omega) _
  have HBE := Lib.hid hbe
  clear hwn0 hg hbe
  go_wp2_with fail
  refine (numbers_any w1.heap.size (w1.heap.size + 1) (w1.heap.size + 3) 1 [1] [e] _ HWN.out HG.out HF.out (by simp) (by simp) (by simp; omega)).mono ?_
  rintro e w2 ⟨rfl, hw2, hb2, hk2⟩
  have HX2 := Lib.hid (hk2 _ _ _ (by decide) (by decide) HX1.out)
  have hbe2 := HBE.out.trans hb2
  clear x0 HX HX1 HWN HG HBE hb2 hk2 HM HF
  have x0 := cells12 HX2.out
  obtain ⟨L2, hL2⟩ : ∃ M, [(1 : Int)] ++ fours [e] = M := ⟨_, rfl⟩
  have hlL2 : L2.length = 5 := by rw [← hL2]; simp [fours_length]
  rw [hL2] at hw2 HL
  have HW2 := Lib.hid hw2
  clear hw2 hL2
  obtain ⟨A2, c2, hblk2, hbg2, hown2⟩ := HW2.out.out
  rw [← HL.out] at hblk2 hown2
  have hcell := hblk2.cell 0
  have HO := Lib.hid hown2
  clear hblk2 hown2 x0 HX2 HW2 hlL2 hlt hlt2 hlt3
  go_wp2_with fail
  go_ret2
  exact ⟨A2, c2, rfl, own_base HO.out hbw.size, hbw.trans (hbe2.mono hbw.size)⟩

set_option maxRecDepth 100000 in
set_option maxHeartbeats 4000000 in
theorem encode_two (x : Nt) (hx : x.Ok) (hl : (x.B.length : Int) ≤ 1000000) (hm : mayB x = true) (hk : x.k = 2) (A : Option Addr) (c : Nat) (w : World) (hr : Rd w A x.B) :
    Calls Try.prog 9 #[nv x A c] w (RetBytes .u16 (enc x) 0 w) := by
  have M := fun wx (h : Rd wx A x.B) => may_any x hx hl A c wx h
  rw [hm] at M
  have HM := Lib.hid M
  obtain ⟨hk0, he, hs, ht, hv, hc, hb, hmm, hn, hB, hN⟩ := hx
  have hmay := hm
  obtain ⟨L, hL⟩ : ∃ L, enc x = L := ⟨_, rfl⟩
  rw [hL]
  clear M hm
  obtain ⟨k, e, s, t, v, cc, b, m, n, z, B, N⟩ := x
  simp only at hk he hs ht hv hc hb hmm hn hB hN hl hr
  subst hk
  obtain ⟨y, hy⟩ : ∃ y, u64of t = y := ⟨_, rfl⟩
  have hyt : IntKind.u64.wrap t = (y : Int) := by rw [wrap_u64, ← hy]; unfold u64of; omega
  have hy64 : U64 (y : Int) := by have := u64of_lt t; rw [hy] at this; simp only [U64]; omega
  obtain ⟨q, rfl⟩ : ∃ q : Nat, v = (q : Int) := ⟨v.toNat, by simp only [U64] at hv; omega⟩
  have HY := Lib.hid hy64
  have HQ := Lib.hid hv
  clear hy64
  have HL : Hid (L = ([2] ++ fours [s]) ++ be 8 y ++ be 8 q) := Lib.hid (by rw [← hL]; simp [enc, fours, hy])
  unfold nv at HM ⊢
  simp only at HM ⊢
  have HF : Hid (∀ y ∈ [s], U32 y) := Lib.hid (by intro y hy; simp at hy; rcases hy with rfl <;> assumption)
  obtain ⟨bl, hbl⟩ : ∃ n, B.length = n := ⟨_, rfl⟩
  rw [hbl] at HM ⊢
  clear hy hbl hmay hL hk0 he hs ht hv hc hb hmm hn hB hN hl
  go_enter Try.func9, Try.ntmps9
  go_wp2_with fail
  refine (HM.out _ (hr.alloc _)).mono ?_
  rintro e w1 ⟨rfl, hb1⟩
  have hblk0 := (Blk.new w _ _).below hb1 (by simp)
  have x0 := cells12 hblk0
  have hbw : Below w.heap.size w w1 := ((Below.refl _ _).alloc (Nat.le_refl _) _).trans (hb1.mono (by simp))
  have hlt : w.heap.size < w1.heap.size := hblk0.lt
  have hlt2 : w.heap.size < w1.heap.size + 1 := by omega
  have hlt3 : w.heap.size < w1.heap.size + 1 + 1 := by omega
  have HX := Lib.hid hblk0
  clear hb1 hblk0
  have hwn0 := (((Wn.new (w := w1) (base := w1.heap.size) 2 (Nat.le_refl _)).alloc (.cells #[.int .u32 cc, .int .u32 b, .int .u32 m] 27)).alloc (.cells #[.int .u32 s] 22))
  have hg : Blk ((((w1.alloc (.cells #[.int .u8 2] 5)).alloc (.cells #[.slice (some ⟨w1.heap.size, 0, none⟩) 1 1] 50)).alloc (.cells #[.int .u32 cc, .int .u32 b, .int .u32 m] 27)).alloc (.cells #[.int .u32 s] 22)) (w1.heap.size + 3) 22 (u32s [s]).toArray := blk_at (by simp)
  have HX1 := Lib.hid ((((HX.out.alloc (.cells #[.int .u8 2] 5)).alloc (.cells #[.slice (some ⟨w1.heap.size, 0, none⟩) 1 1] 50)).alloc (.cells #[.int .u32 cc, .int .u32 b, .int .u32 m] 27)).alloc (.cells #[.int .u32 s] 22))
  have HWN := Lib.hid hwn0
  have HG := Lib.hid hg
  have hbe : Below w1.heap.size w1 ((((w1.alloc (.cells #[.int .u8 2] 5)).alloc (.cells #[.slice (some ⟨w1.heap.size, 0, none⟩) 1 1] 50)).alloc (.cells #[.int .u32 cc, .int .u32 b, .int .u32 m] 27)).alloc (.cells #[.int .u32 s] 22)) := ((((Below.refl _ _).alloc (Nat.le_refl _) _).alloc (by simp) _).alloc (by simp; omega) _).alloc (by simp; omega) _
  have HBE := Lib.hid hbe
  clear hwn0 hg hbe
  go_wp2_with fail
  refine (numbers_any w1.heap.size (w1.heap.size + 1) (w1.heap.size + 3) 1 [2] [s] _ HWN.out HG.out HF.out (by simp) (by simp) (by simp; omega)).mono ?_
  rintro e w2 ⟨rfl, hw2, hb2, hk2⟩
  have HX2 := Lib.hid (hk2 _ _ _ (by decide) (by decide) HX1.out)
  have hbe2 := HBE.out.trans hb2
  clear x0 HX HX1 HWN HG HBE hb2 hk2 HM HF
  have x0 := cells12 HX2.out
  obtain ⟨L2, hL2⟩ : ∃ M, [(2 : Int)] ++ fours [s] = M := ⟨_, rfl⟩
  have hlL2 : L2.length = 5 := by rw [← hL2]; simp [fours_length]
  rw [hL2] at hw2 HL
  have HW2 := Lib.hid hw2
  clear hw2 hL2
  have hsz2 : w1.heap.size ≤ w2.heap.size := hbe2.size
  go_wp2_with fail
  refine (number_any w1.heap.size (w1.heap.size + 1) L2 y 8 _ HW2.out (HY.out) (by decide) (by omega) hsz2).mono ?_
  rintro e w3 ⟨rfl, hw3, hb3, hk3⟩
  have HX3 := Lib.hid (hk3 _ _ _ (by decide) (by decide) HX2.out)
  have hbe3 := hbe2.trans hb3
  clear x0 HX2 HW2 hb3 hk3 hsz2 hbe2
  have x0 := cells12 HX3.out
  obtain ⟨L3, hL3⟩ : ∃ M, L2 ++ be 8 y = M := ⟨_, rfl⟩
  have hlL3 : L3.length = 13 := by rw [← hL3, List.length_append, be_length, hlL2]
  rw [hL3] at hw3 HL
  have HW3 := Lib.hid hw3
  clear hw3 hL3 hlL2
  have hsz3 : w1.heap.size ≤ w3.heap.size := hbe3.size
  go_wp2_with fail
  refine (number_any w1.heap.size (w1.heap.size + 1) L3 q 8 _ HW3.out (HQ.out) (by decide) (by omega) hsz3).mono ?_
  rintro e w4 ⟨rfl, hw4, hb4, hk4⟩
  have HX4 := Lib.hid (hk4 _ _ _ (by decide) (by decide) HX3.out)
  have hbe4 := hbe3.trans hb4
  clear x0 HX3 HW3 hb4 hk4 hsz3 hbe3
  have x0 := cells12 HX4.out
  obtain ⟨L4, hL4⟩ : ∃ M, L3 ++ be 8 q = M := ⟨_, rfl⟩
  have hlL4 : L4.length = 21 := by rw [← hL4, List.length_append, be_length, hlL3]
  rw [hL4] at hw4 HL
  have HW4 := Lib.hid hw4
  clear hw4 hL4 hlL3
  obtain ⟨A2, c2, hblk2, hbg2, hown2⟩ := HW4.out.out
  rw [← HL.out] at hblk2 hown2
  have hcell := hblk2.cell 0
  have HO := Lib.hid hown2
  clear hblk2 hown2 x0 HX4 HW4 hlL4 hlt hlt2 hlt3
  go_wp2_with fail
  go_ret2
  exact ⟨A2, c2, rfl, own_base HO.out hbw.size, hbw.trans (hbe4.mono hbw.size)⟩

set_option maxRecDepth 100000 in
set_option maxHeartbeats 4000000 in
theorem encode_three (x : Nt) (hx : x.Ok) (hl : (x.B.length : Int) ≤ 1000000) (hm : mayB x = true) (hk : x.k = 3) (A : Option Addr) (c : Nat) (w : World) (hr : Rd w A x.B) :
    Calls Try.prog 9 #[nv x A c] w (RetBytes .u16 (enc x) 0 w) := by
  have M := fun wx (h : Rd wx A x.B) => may_any x hx hl A c wx h
  rw [hm] at M
  have HM := Lib.hid M
  obtain ⟨hk0, he, hs, ht, hv, hc, hb, hmm, hn, hB, hN⟩ := hx
  have hmay := hm
  obtain ⟨L, hL⟩ : ∃ L, enc x = L := ⟨_, rfl⟩
  rw [hL]
  clear M hm
  obtain ⟨k, e, s, t, v, cc, b, m, n, z, B, N⟩ := x
  simp only at hk he hs ht hv hc hb hmm hn hB hN hl hr
  subst hk
  have HL : Hid (L = [3] ++ fours [s, cc, b, m]) := Lib.hid (by rw [← hL]; simp [enc, fours])
  unfold nv at HM ⊢
  simp only at HM ⊢
  have HF : Hid (∀ y ∈ [s, cc, b, m], U32 y) := Lib.hid (by intro y hy; simp at hy; rcases hy with rfl | rfl | rfl | rfl <;> assumption)
  obtain ⟨bl, hbl⟩ : ∃ n, B.length = n := ⟨_, rfl⟩
  rw [hbl] at HM ⊢
  clear hbl hmay hL hk0 he hs ht hv hc hb hmm hn hB hN hl
  go_enter Try.func9, Try.ntmps9
  go_wp2_with fail
  refine (HM.out _ (hr.alloc _)).mono ?_
  rintro e w1 ⟨rfl, hb1⟩
  have hblk0 := (Blk.new w _ _).below hb1 (by simp)
  have x0 := cells12 hblk0
  have hbw : Below w.heap.size w w1 := ((Below.refl _ _).alloc (Nat.le_refl _) _).trans (hb1.mono (by simp))
  have hlt : w.heap.size < w1.heap.size := hblk0.lt
  have hlt2 : w.heap.size < w1.heap.size + 1 := by omega
  have hlt3 : w.heap.size < w1.heap.size + 1 + 1 := by omega
  have HX := Lib.hid hblk0
  clear hb1 hblk0
  have hwn0 := (((Wn.new (w := w1) (base := w1.heap.size) 3 (Nat.le_refl _)).alloc (.cells #[.int .u32 cc, .int .u32 b, .int .u32 m] 27)).alloc (.cells #[.int .u32 s, .int .u32 cc, .int .u32 b, .int .u32 m] 22))
  have hg : Blk ((((w1.alloc (.cells #[.int .u8 3] 5)).alloc (.cells #[.slice (some ⟨w1.heap.size, 0, none⟩) 1 1] 50)).alloc (.cells #[.int .u32 cc, .int .u32 b, .int .u32 m] 27)).alloc (.cells #[.int .u32 s, .int .u32 cc, .int .u32 b, .int .u32 m] 22)) (w1.heap.size + 3) 22 (u32s [s, cc, b, m]).toArray := blk_at (by simp)
  have HX1 := Lib.hid ((((HX.out.alloc (.cells #[.int .u8 3] 5)).alloc (.cells #[.slice (some ⟨w1.heap.size, 0, none⟩) 1 1] 50)).alloc (.cells #[.int .u32 cc, .int .u32 b, .int .u32 m] 27)).alloc (.cells #[.int .u32 s, .int .u32 cc, .int .u32 b, .int .u32 m] 22))
  have HWN := Lib.hid hwn0
  have HG := Lib.hid hg
  have hbe : Below w1.heap.size w1 ((((w1.alloc (.cells #[.int .u8 3] 5)).alloc (.cells #[.slice (some ⟨w1.heap.size, 0, none⟩) 1 1] 50)).alloc (.cells #[.int .u32 cc, .int .u32 b, .int .u32 m] 27)).alloc (.cells #[.int .u32 s, .int .u32 cc, .int .u32 b, .int .u32 m] 22)) := ((((Below.refl _ _).alloc (Nat.le_refl _) _).alloc (by simp) _).alloc (by simp; omega) _).alloc (by simp; omega) _
  have HBE := Lib.hid hbe
  clear hwn0 hg hbe
  go_wp2_with fail
  refine (numbers_any w1.heap.size (w1.heap.size + 1) (w1.heap.size + 3) 4 [3] [s, cc, b, m] _ HWN.out HG.out HF.out (by simp) (by simp) (by simp; omega)).mono ?_
  rintro e w2 ⟨rfl, hw2, hb2, hk2⟩
  have HX2 := Lib.hid (hk2 _ _ _ (by decide) (by decide) HX1.out)
  have hbe2 := HBE.out.trans hb2
  clear x0 HX HX1 HWN HG HBE hb2 hk2 HM HF
  have x0 := cells12 HX2.out
  obtain ⟨L2, hL2⟩ : ∃ M, [(3 : Int)] ++ fours [s, cc, b, m] = M := ⟨_, rfl⟩
  have hlL2 : L2.length = 17 := by rw [← hL2]; simp [fours_length]
  rw [hL2] at hw2 HL
  have HW2 := Lib.hid hw2
  clear hw2 hL2
  obtain ⟨A2, c2, hblk2, hbg2, hown2⟩ := HW2.out.out
  rw [← HL.out] at hblk2 hown2
  have hcell := hblk2.cell 0
  have HO := Lib.hid hown2
  clear hblk2 hown2 x0 HX2 HW2 hlL2 hlt hlt2 hlt3
  go_wp2_with fail
  go_ret2
  exact ⟨A2, c2, rfl, own_base HO.out hbw.size, hbw.trans (hbe2.mono hbw.size)⟩

set_option maxRecDepth 100000 in
set_option maxHeartbeats 4000000 in
theorem encode_four_false (x : Nt) (hx : x.Ok) (hl : (x.B.length : Int) ≤ 1000000) (hm : mayB x = true) (hk : x.k = 4) (hz : x.z = false) (A : Option Addr) (c : Nat) (w : World) (hr : Rd w A x.B) :
    Calls Try.prog 9 #[nv x A c] w (RetBytes .u16 (enc x) 0 w) := by
  have M := fun wx (h : Rd wx A x.B) => may_any x hx hl A c wx h
  rw [hm] at M
  have HM := Lib.hid M
  obtain ⟨hk0, he, hs, ht, hv, hc, hb, hmm, hn, hB, hN⟩ := hx
  have hmay := hm
  obtain ⟨L, hL⟩ : ∃ L, enc x = L := ⟨_, rfl⟩
  rw [hL]
  clear M hm
  obtain ⟨k, e, s, t, v, cc, b, m, n, z, B, N⟩ := x
  simp only at hk he hs ht hv hc hb hmm hn hB hN hl hr hz
  subst hk
  have hN0 : 0 < N ∧ N ≤ 4000 ∧ B.length ≤ 500 ∧ 0 < B.length := by
    simp only [mayB, Bool.and_eq_true, decide_eq_true_eq, show ¬ (4 : Int) = 1 from by decide, show ¬ (4 : Int) = 2 from by decide, show ¬ (4 : Int) = 3 from by decide, if_false, if_true] at hmay
    have h2 := snd_small hmay.2.2.2.2.2 hmay.2.2.2.2.1
    have h3 := ((sndB_iff _ _).1 hmay.2.2.2.2.2).2.1
    exact ⟨hmay.2.2.2.1, h2.2, hmay.2.2.2.2.1, by have := hmay.2.2.2.1; omega⟩
  obtain ⟨q, rfl⟩ : ∃ q : Nat, N = (q : Int) := ⟨N.toNat, by omega⟩
  have hq : (q : Int) ≤ 4000 := hN0.2.1
  have hqw : IntKind.u64.wrap (q : Int) = (q : Int) := by rw [wrap_u64]; omega
  have HQ : Hid (U64 (q : Int)) := Lib.hid (by simp only [U64]; omega)
  have HZ : Hid (U64 ((0 : Nat) : Int)) := Lib.hid (by simp only [U64]; decide)
  subst hz
  have HL : Hid (L = (([4] ++ fours [s, cc, b, m, n]) ++ be 1 0 ++ be 2 q) ++ B) := Lib.hid (by rw [← hL]; simp [enc, fours]; rfl)
  unfold nv at HM ⊢
  simp only at HM ⊢
  have HF : Hid (∀ y ∈ [s, cc, b, m, n], U32 y) := Lib.hid (by intro y hy; simp at hy; rcases hy with rfl | rfl | rfl | rfl | rfl <;> assumption)
  obtain ⟨bl, hbl⟩ : ∃ n, B.length = n := ⟨_, rfl⟩
  rw [hbl] at HM ⊢
  clear hmay hL hk0 he hs ht hv hc hb hmm hn hB hN
  go_enter Try.func9, Try.ntmps9
  go_wp2_with fail
  refine (HM.out _ (hr.alloc _)).mono ?_
  rintro e w1 ⟨rfl, hb1⟩
  have hblk0 := (Blk.new w _ _).below hb1 (by simp)
  have x0 := cells12 hblk0
  have hbw : Below w.heap.size w w1 := ((Below.refl _ _).alloc (Nat.le_refl _) _).trans (hb1.mono (by simp))
  have hlt : w.heap.size < w1.heap.size := hblk0.lt
  have hlt2 : w.heap.size < w1.heap.size + 1 := by omega
  have hlt3 : w.heap.size < w1.heap.size + 1 + 1 := by omega
  have HX := Lib.hid hblk0
  clear hb1 hblk0
  have hwn0 := (((Wn.new (w := w1) (base := w1.heap.size) 4 (Nat.le_refl _)).alloc (.cells #[.int .u32 cc, .int .u32 b, .int .u32 m] 27)).alloc (.cells #[.int .u32 s, .int .u32 cc, .int .u32 b, .int .u32 m, .int .u32 n] 22))
  have hg : Blk ((((w1.alloc (.cells #[.int .u8 4] 5)).alloc (.cells #[.slice (some ⟨w1.heap.size, 0, none⟩) 1 1] 50)).alloc (.cells #[.int .u32 cc, .int .u32 b, .int .u32 m] 27)).alloc (.cells #[.int .u32 s, .int .u32 cc, .int .u32 b, .int .u32 m, .int .u32 n] 22)) (w1.heap.size + 3) 22 (u32s [s, cc, b, m, n]).toArray := blk_at (by simp)
  have HX1 := Lib.hid ((((HX.out.alloc (.cells #[.int .u8 4] 5)).alloc (.cells #[.slice (some ⟨w1.heap.size, 0, none⟩) 1 1] 50)).alloc (.cells #[.int .u32 cc, .int .u32 b, .int .u32 m] 27)).alloc (.cells #[.int .u32 s, .int .u32 cc, .int .u32 b, .int .u32 m, .int .u32 n] 22))
  have HWN := Lib.hid hwn0
  have HG := Lib.hid hg
  have hbe : Below w1.heap.size w1 ((((w1.alloc (.cells #[.int .u8 4] 5)).alloc (.cells #[.slice (some ⟨w1.heap.size, 0, none⟩) 1 1] 50)).alloc (.cells #[.int .u32 cc, .int .u32 b, .int .u32 m] 27)).alloc (.cells #[.int .u32 s, .int .u32 cc, .int .u32 b, .int .u32 m, .int .u32 n] 22)) := ((((Below.refl _ _).alloc (Nat.le_refl _) _).alloc (by simp) _).alloc (by simp; omega) _).alloc (by simp; omega) _
  have HBE := Lib.hid hbe
  clear hwn0 hg hbe
  go_wp2_with fail
  refine (numbers_any w1.heap.size (w1.heap.size + 1) (w1.heap.size + 3) 5 [4] [s, cc, b, m, n] _ HWN.out HG.out HF.out (by simp) (by simp) (by simp; omega)).mono ?_
  rintro e w2 ⟨rfl, hw2, hb2, hk2⟩
  have HX2 := Lib.hid (hk2 _ _ _ (by decide) (by decide) HX1.out)
  have hbe2 := HBE.out.trans hb2
  clear x0 HX HX1 HWN HG HBE hb2 hk2 HM HF
  have x0 := cells12 HX2.out
  obtain ⟨L2, hL2⟩ : ∃ M, [(4 : Int)] ++ fours [s, cc, b, m, n] = M := ⟨_, rfl⟩
  have hlL2 : L2.length = 21 := by rw [← hL2]; simp [fours_length]
  rw [hL2] at hw2 HL
  have HW2 := Lib.hid hw2
  clear hw2 hL2
  have hsz2 : w1.heap.size ≤ w2.heap.size := hbe2.size
  go_wp2_with fail
  refine (number_any w1.heap.size (w1.heap.size + 1) L2 0 1 _ HW2.out (HZ.out) (by decide) (by omega) hsz2).mono ?_
  rintro e w3 ⟨rfl, hw3, hb3, hk3⟩
  have HX3 := Lib.hid (hk3 _ _ _ (by decide) (by decide) HX2.out)
  have hbe3 := hbe2.trans hb3
  clear x0 HX2 HW2 hb3 hk3 hsz2 hbe2
  have x0 := cells12 HX3.out
  obtain ⟨L3, hL3⟩ : ∃ M, L2 ++ be 1 0 = M := ⟨_, rfl⟩
  have hlL3 : L3.length = 22 := by rw [← hL3, List.length_append, be_length, hlL2]
  rw [hL3] at hw3 HL
  have HW3 := Lib.hid hw3
  clear hw3 hL3 hlL2
  have hsz3 : w1.heap.size ≤ w3.heap.size := hbe3.size
  go_wp2_with fail
  refine (number_any w1.heap.size (w1.heap.size + 1) L3 q 2 _ HW3.out (HQ.out) (by decide) (by omega) hsz3).mono ?_
  rintro e w4 ⟨rfl, hw4, hb4, hk4⟩
  have HX4 := Lib.hid (hk4 _ _ _ (by decide) (by decide) HX3.out)
  have hbe4 := hbe3.trans hb4
  clear x0 HX3 HW3 hb4 hk4 hsz3 hbe3
  have x0 := cells12 HX4.out
  obtain ⟨L4, hL4⟩ : ∃ M, L3 ++ be 2 q = M := ⟨_, rfl⟩
  have hlL4 : L4.length = 24 := by rw [← hL4, List.length_append, be_length, hlL3]
  rw [hL4] at hw4 HL
  have HW4 := Lib.hid hw4
  clear hw4 hL4 hlL3
  obtain ⟨i0, hi, hz0, hz1, hz2⟩ := info_parts info_u8
  obtain ⟨A4, c4, hblk4, hbg4, hown4⟩ := HW4.out.out
  rw [hlL4] at hblk4 hown4
  have hrd := hr.below (hbw.trans (hbe4.mono hbw.size))
  obtain ⟨g, o, hA, hgl, hcl⟩ := hrd.at_ (by omega)
  subst hA
  have hw0 : w4.cell? ⟨w1.heap.size + 1, 0, none⟩ = some (.slice A4 24 c4) := hblk4.cell 0
  have hf : ∀ i, w4.frozen? ⟨w1.heap.size + 1, i, none⟩ = false := hblk4.frozen
  have hfar := own_blk_ne hown4 hblk4 (by decide)
  have HNEWS : Hid (∀ j u, (u8s B)[j]? = some u → w4.drew.cell? ((⟨g, o, none⟩ : Addr).add j) = some u) := Lib.hid (by
    intro j u hu
    have hj : j < B.length := by
      rcases Nat.lt_or_ge j B.length with h | h
      · exact h
      · rw [List.getElem?_eq_none (by rw [u8s_length]; exact h)] at hu; cases hu
    rw [u8s_get hj] at hu
    injection hu with hu
    subst hu
    have e : (⟨g, o, none⟩ : Addr).add j = ⟨g, o + j, none⟩ := by unfold Addr.add; split <;> simp_all
    rw [e]
    exact hcl j hj)
  have HONE := Lib.hid (u8s_one B)
  have HLB : Hid ((u8s B).length = bl * 1) := Lib.hid (by rw [u8s_length]; omega)
  have HB := Lib.hid hblk4
  have HO := Lib.hid hown4
  have hbl0 : 0 < bl := by omega
  have hmx : 24 + bl ≤ maxLen := by unfold maxLen; omega
  have hby : (24 + bl) * 1 ≤ 140737488355328 := by omega
  have HLEN : Hid (L.length = 24 + bl) := Lib.hid (by rw [HL.out, List.length_append, hlL4, hbl])
  have HSZ : Hid (w1.heap.size ≤ w4.drew.heap.size) := Lib.hid hbe4.size
  clear hblk4 hown4 hcl hbl hrd hr
  go_wp2_with fail
  go_region_law
    ((refine step_append_lies _ (by rfl) _ _ _ (by rfl) w1.heap.size 5 i0 (.int .u8 0) 1 1 Try.underlying28 hi hz0 hz1 hz2 rfl (by omega) (.slice A4 24 c4) 24 (u8s L4) (by rfl) HO.out.drew ⟨g, o, none⟩ bl c (u8s B) (by rfl) HLB.out HNEWS.out HONE.out hbl0 hmx hby HSZ.out w4.heap.size (by rfl) ?_; intro gg cap w5 hown5 hgrow hat hlt5; have HB5 := Lib.hid (HB.out.drew.grown hgrow (fun e => hfar e.symm)); have hc5 := HB5.out.cell 0; have hf5 := HB5.out.frozen))
  all_goals
    go_wp2_with fail
    go_ret2
    have hne := own_blk_ne hown5 HB5.out (by decide)
    have hl' := HLEN.out
    refine ⟨some ⟨gg, 0, none⟩, cap, ?_, ?_, ?_⟩
    · rw [hl']; rfl
    · rw [hl', HL.out, u8s_append]
      exact own_far (own_base hown5 hbw.size) hne _
    · exact hbw.trans (((hbe4.drew.grown hgrow HSZ.out (fun k hk => (HO.out.lt k hk).1)).setCell (by simp) _).mono hbw.size)

set_option maxRecDepth 100000 in
set_option maxHeartbeats 4000000 in
theorem encode_four_true (x : Nt) (hx : x.Ok) (hl : (x.B.length : Int) ≤ 1000000) (hm : mayB x = true) (hk : x.k = 4) (hz : x.z = true) (A : Option Addr) (c : Nat) (w : World) (hr : Rd w A x.B) :
    Calls Try.prog 9 #[nv x A c] w (RetBytes .u16 (enc x) 0 w) := by
  have M := fun wx (h : Rd wx A x.B) => may_any x hx hl A c wx h
  rw [hm] at M
  have HM := Lib.hid M
  obtain ⟨hk0, he, hs, ht, hv, hc, hb, hmm, hn, hB, hN⟩ := hx
  have hmay := hm
  obtain ⟨L, hL⟩ : ∃ L, enc x = L := ⟨_, rfl⟩
  rw [hL]
  clear M hm
  obtain ⟨k, e, s, t, v, cc, b, m, n, z, B, N⟩ := x
  simp only at hk he hs ht hv hc hb hmm hn hB hN hl hr hz
  subst hk
  have hN0 : 0 < N ∧ N ≤ 4000 ∧ B.length ≤ 500 ∧ 0 < B.length := by
    simp only [mayB, Bool.and_eq_true, decide_eq_true_eq, show ¬ (4 : Int) = 1 from by decide, show ¬ (4 : Int) = 2 from by decide, show ¬ (4 : Int) = 3 from by decide, if_false, if_true] at hmay
    have h2 := snd_small hmay.2.2.2.2.2 hmay.2.2.2.2.1
    have h3 := ((sndB_iff _ _).1 hmay.2.2.2.2.2).2.1
    exact ⟨hmay.2.2.2.1, h2.2, hmay.2.2.2.2.1, by have := hmay.2.2.2.1; omega⟩
  obtain ⟨q, rfl⟩ : ∃ q : Nat, N = (q : Int) := ⟨N.toNat, by omega⟩
  have hq : (q : Int) ≤ 4000 := hN0.2.1
  have hqw : IntKind.u64.wrap (q : Int) = (q : Int) := by rw [wrap_u64]; omega
  have HQ : Hid (U64 (q : Int)) := Lib.hid (by simp only [U64]; omega)
  have HZ : Hid (U64 ((1 : Nat) : Int)) := Lib.hid (by simp only [U64]; decide)
  subst hz
  have HL : Hid (L = (([4] ++ fours [s, cc, b, m, n]) ++ be 1 1 ++ be 2 q) ++ B) := Lib.hid (by rw [← hL]; simp [enc, fours]; rfl)
  unfold nv at HM ⊢
  simp only at HM ⊢
  have HF : Hid (∀ y ∈ [s, cc, b, m, n], U32 y) := Lib.hid (by intro y hy; simp at hy; rcases hy with rfl | rfl | rfl | rfl | rfl <;> assumption)
  obtain ⟨bl, hbl⟩ : ∃ n, B.length = n := ⟨_, rfl⟩
  rw [hbl] at HM ⊢
  clear hmay hL hk0 he hs ht hv hc hb hmm hn hB hN
  go_enter Try.func9, Try.ntmps9
  go_wp2_with fail
  refine (HM.out _ (hr.alloc _)).mono ?_
  rintro e w1 ⟨rfl, hb1⟩
  have hblk0 := (Blk.new w _ _).below hb1 (by simp)
  have x0 := cells12 hblk0
  have hbw : Below w.heap.size w w1 := ((Below.refl _ _).alloc (Nat.le_refl _) _).trans (hb1.mono (by simp))
  have hlt : w.heap.size < w1.heap.size := hblk0.lt
  have hlt2 : w.heap.size < w1.heap.size + 1 := by omega
  have hlt3 : w.heap.size < w1.heap.size + 1 + 1 := by omega
  have HX := Lib.hid hblk0
  clear hb1 hblk0
  have hwn0 := (((Wn.new (w := w1) (base := w1.heap.size) 4 (Nat.le_refl _)).alloc (.cells #[.int .u32 cc, .int .u32 b, .int .u32 m] 27)).alloc (.cells #[.int .u32 s, .int .u32 cc, .int .u32 b, .int .u32 m, .int .u32 n] 22))
  have hg : Blk ((((w1.alloc (.cells #[.int .u8 4] 5)).alloc (.cells #[.slice (some ⟨w1.heap.size, 0, none⟩) 1 1] 50)).alloc (.cells #[.int .u32 cc, .int .u32 b, .int .u32 m] 27)).alloc (.cells #[.int .u32 s, .int .u32 cc, .int .u32 b, .int .u32 m, .int .u32 n] 22)) (w1.heap.size + 3) 22 (u32s [s, cc, b, m, n]).toArray := blk_at (by simp)
  have HX1 := Lib.hid ((((HX.out.alloc (.cells #[.int .u8 4] 5)).alloc (.cells #[.slice (some ⟨w1.heap.size, 0, none⟩) 1 1] 50)).alloc (.cells #[.int .u32 cc, .int .u32 b, .int .u32 m] 27)).alloc (.cells #[.int .u32 s, .int .u32 cc, .int .u32 b, .int .u32 m, .int .u32 n] 22))
  have HWN := Lib.hid hwn0
  have HG := Lib.hid hg
  have hbe : Below w1.heap.size w1 ((((w1.alloc (.cells #[.int .u8 4] 5)).alloc (.cells #[.slice (some ⟨w1.heap.size, 0, none⟩) 1 1] 50)).alloc (.cells #[.int .u32 cc, .int .u32 b, .int .u32 m] 27)).alloc (.cells #[.int .u32 s, .int .u32 cc, .int .u32 b, .int .u32 m, .int .u32 n] 22)) := ((((Below.refl _ _).alloc (Nat.le_refl _) _).alloc (by simp) _).alloc (by simp; omega) _).alloc (by simp; omega) _
  have HBE := Lib.hid hbe
  clear hwn0 hg hbe
  go_wp2_with fail
  refine (numbers_any w1.heap.size (w1.heap.size + 1) (w1.heap.size + 3) 5 [4] [s, cc, b, m, n] _ HWN.out HG.out HF.out (by simp) (by simp) (by simp; omega)).mono ?_
  rintro e w2 ⟨rfl, hw2, hb2, hk2⟩
  have HX2 := Lib.hid (hk2 _ _ _ (by decide) (by decide) HX1.out)
  have hbe2 := HBE.out.trans hb2
  clear x0 HX HX1 HWN HG HBE hb2 hk2 HM HF
  have x0 := cells12 HX2.out
  obtain ⟨L2, hL2⟩ : ∃ M, [(4 : Int)] ++ fours [s, cc, b, m, n] = M := ⟨_, rfl⟩
  have hlL2 : L2.length = 21 := by rw [← hL2]; simp [fours_length]
  rw [hL2] at hw2 HL
  have HW2 := Lib.hid hw2
  clear hw2 hL2
  have hsz2 : w1.heap.size ≤ w2.heap.size := hbe2.size
  go_wp2_with fail
  refine (number_any w1.heap.size (w1.heap.size + 1) L2 1 1 _ HW2.out (HZ.out) (by decide) (by omega) hsz2).mono ?_
  rintro e w3 ⟨rfl, hw3, hb3, hk3⟩
  have HX3 := Lib.hid (hk3 _ _ _ (by decide) (by decide) HX2.out)
  have hbe3 := hbe2.trans hb3
  clear x0 HX2 HW2 hb3 hk3 hsz2 hbe2
  have x0 := cells12 HX3.out
  obtain ⟨L3, hL3⟩ : ∃ M, L2 ++ be 1 1 = M := ⟨_, rfl⟩
  have hlL3 : L3.length = 22 := by rw [← hL3, List.length_append, be_length, hlL2]
  rw [hL3] at hw3 HL
  have HW3 := Lib.hid hw3
  clear hw3 hL3 hlL2
  have hsz3 : w1.heap.size ≤ w3.heap.size := hbe3.size
  go_wp2_with fail
  refine (number_any w1.heap.size (w1.heap.size + 1) L3 q 2 _ HW3.out (HQ.out) (by decide) (by omega) hsz3).mono ?_
  rintro e w4 ⟨rfl, hw4, hb4, hk4⟩
  have HX4 := Lib.hid (hk4 _ _ _ (by decide) (by decide) HX3.out)
  have hbe4 := hbe3.trans hb4
  clear x0 HX3 HW3 hb4 hk4 hsz3 hbe3
  have x0 := cells12 HX4.out
  obtain ⟨L4, hL4⟩ : ∃ M, L3 ++ be 2 q = M := ⟨_, rfl⟩
  have hlL4 : L4.length = 24 := by rw [← hL4, List.length_append, be_length, hlL3]
  rw [hL4] at hw4 HL
  have HW4 := Lib.hid hw4
  clear hw4 hL4 hlL3
  obtain ⟨i0, hi, hz0, hz1, hz2⟩ := info_parts info_u8
  obtain ⟨A4, c4, hblk4, hbg4, hown4⟩ := HW4.out.out
  rw [hlL4] at hblk4 hown4
  have hrd := hr.below (hbw.trans (hbe4.mono hbw.size))
  obtain ⟨g, o, hA, hgl, hcl⟩ := hrd.at_ (by omega)
  subst hA
  have hw0 : w4.cell? ⟨w1.heap.size + 1, 0, none⟩ = some (.slice A4 24 c4) := hblk4.cell 0
  have hf : ∀ i, w4.frozen? ⟨w1.heap.size + 1, i, none⟩ = false := hblk4.frozen
  have hfar := own_blk_ne hown4 hblk4 (by decide)
  have HNEWS : Hid (∀ j u, (u8s B)[j]? = some u → w4.drew.cell? ((⟨g, o, none⟩ : Addr).add j) = some u) := Lib.hid (by
    intro j u hu
    have hj : j < B.length := by
      rcases Nat.lt_or_ge j B.length with h | h
      · exact h
      · rw [List.getElem?_eq_none (by rw [u8s_length]; exact h)] at hu; cases hu
    rw [u8s_get hj] at hu
    injection hu with hu
    subst hu
    have e : (⟨g, o, none⟩ : Addr).add j = ⟨g, o + j, none⟩ := by unfold Addr.add; split <;> simp_all
    rw [e]
    exact hcl j hj)
  have HONE := Lib.hid (u8s_one B)
  have HLB : Hid ((u8s B).length = bl * 1) := Lib.hid (by rw [u8s_length]; omega)
  have HB := Lib.hid hblk4
  have HO := Lib.hid hown4
  have hbl0 : 0 < bl := by omega
  have hmx : 24 + bl ≤ maxLen := by unfold maxLen; omega
  have hby : (24 + bl) * 1 ≤ 140737488355328 := by omega
  have HLEN : Hid (L.length = 24 + bl) := Lib.hid (by rw [HL.out, List.length_append, hlL4, hbl])
  have HSZ : Hid (w1.heap.size ≤ w4.drew.heap.size) := Lib.hid hbe4.size
  clear hblk4 hown4 hcl hbl hrd hr
  go_wp2_with fail
  go_region_law
    ((refine step_append_lies _ (by rfl) _ _ _ (by rfl) w1.heap.size 5 i0 (.int .u8 0) 1 1 Try.underlying28 hi hz0 hz1 hz2 rfl (by omega) (.slice A4 24 c4) 24 (u8s L4) (by rfl) HO.out.drew ⟨g, o, none⟩ bl c (u8s B) (by rfl) HLB.out HNEWS.out HONE.out hbl0 hmx hby HSZ.out w4.heap.size (by rfl) ?_; intro gg cap w5 hown5 hgrow hat hlt5; have HB5 := Lib.hid (HB.out.drew.grown hgrow (fun e => hfar e.symm)); have hc5 := HB5.out.cell 0; have hf5 := HB5.out.frozen))
  all_goals
    go_wp2_with fail
    go_ret2
    have hne := own_blk_ne hown5 HB5.out (by decide)
    have hl' := HLEN.out
    refine ⟨some ⟨gg, 0, none⟩, cap, ?_, ?_, ?_⟩
    · rw [hl']; rfl
    · rw [hl', HL.out, u8s_append]
      exact own_far (own_base hown5 hbw.size) hne _
    · exact hbw.trans (((hbe4.drew.grown hgrow HSZ.out (fun k hk => (HO.out.lt k hk).1)).setCell (by simp) _).mono hbw.size)

theorem encode_may (x : Nt) (hx : x.Ok) (hl : (x.B.length : Int) ≤ 1000000) (hm : mayB x = true) (A : Option Addr) (c : Nat) (w : World) (hr : Rd w A x.B) :
    Calls Try.prog 9 #[nv x A c] w (RetBytes .u16 (enc x) 0 w) := by
  rcases may_kind hm with h | h | h | h
  · exact encode_one x hx hl hm h A c w hr
  · exact encode_two x hx hl hm h A c w hr
  · exact encode_three x hx hl hm h A c w hr
  · cases hz : x.z
    · exact encode_four_false x hx hl hm h hz A c w hr
    · exact encode_four_true x hx hl hm h hz A c w hr
end Go.Proofs.Ytokolgelmikfmaa
