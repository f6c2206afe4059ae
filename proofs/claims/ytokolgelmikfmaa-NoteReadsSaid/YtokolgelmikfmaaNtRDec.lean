/-
  The reference's Decode: what bytes would be; it is, if it is written so.
-/
import Derived.Test.YtokolgelmikfmaaNtDec
import Derived.Test.YtokolgelmikfmaaNtREnc
import Derived.Test.YtokolgelmikfmaaNtRNum
import Derived.Deep.DeepCutAuto
import Derived.Deep.CutBlock
import Derived.Says
import Derived.Deep.RegionLaw
import Derived.Deep.AppendLies
import Derived.Deep.RegionHeld3
namespace Go.Proofs.Ytokolgelmikfmaa
open Go.RowKit Pl
set_option linter.unusedVariables false

theorem addr_add (g o j : Nat) : (⟨g, o, none⟩ : Addr).add j = ⟨g, o + j, none⟩ := by unfold Addr.add; split <;> simp_all
theorem wrap_u32 (a : Int) : IntKind.u32.wrap a = a % 4294967296 := by simp [IntKind.wrap, IntKind.bits, IntKind.signed]
theorem num_w32 {Bs : List Int} (h : Byts Bs) (p : Nat) : IntKind.u32.wrap ((num Bs p 4 : Nat) : Int) = ((num Bs p 4 : Nat) : Int) := by
  have := num_lt h p 4
  rw [pow4] at this
  rw [wrap_u32]; omega

theorem parse_small {Bs : List Int} (hl : (Bs.length : Int) ≤ 1000000) : ((parse Bs).B.length : Int) ≤ 1000000 := by
  have : (parse Bs).B.length ≤ Bs.length := by
    unfold parse
    split
    · simp
    · split
      · simp
      · split
        · simp
        · split
          · simp
          · simp
  omega

set_option maxRecDepth 100000 in
set_option maxHeartbeats 4000000 in
theorem rdecode_nil (A : Option Addr) (c : Nat) (w : World) :
    Calls Try.prog 14 #[.slice A 0 c] w (RetNote .i64 z0 110 w) := by
  go_enter Try.func14, Try.ntmps14
  go_wp2_with fail
  have x0 := cells12 (Blk.new w 32 #[.int .u8 0, .int .u32 0, .int .u32 0, .int .i64 0, .int .u64 0, .int .u32 0, .int .u32 0, .int .u32 0, .int .u32 0, .bool false, .slice none 0 0, .int .i64 0])
  refine bodyPost_ret (v := .tuple #[.agg #[.int .u8 0, .int .u32 0, .int .u32 0, .int .i64 0, .int .u64 0, .int .u32 0, .int .u32 0, .int .u32 0, .int .u32 0, .bool false, .slice none 0 0, .int .i64 0], .int .i64 110]) (by simp [results, Try.results14, go_sem, x0]) rfl ⟨none, 0, rfl, World.ownsRow_nil _ _ _ _, (Below.refl _ _).alloc (Nat.le_refl _) _⟩

set_option maxRecDepth 100000 in
set_option maxHeartbeats 4000000 in
theorem rdecode_some (A : Option Addr) (c : Nat) (Bs : List Int) (hB : Byts Bs) (hl : (Bs.length : Int) ≤ 1000000) (h0 : 0 < Bs.length) (w : World) (hr : Rd w A Bs) (hc : Bs.length ≤ c) :
    Calls Try.prog 14 #[.slice A Bs.length c] w (RetNote .i64 (if goodB Bs then parse Bs else z0) (if goodB Bs then 0 else 110) w) := by
  have NUM := fun p W (hp : p ≤ 100) (hW : W ≤ 8) wx (h : Rd wx A Bs) => rnum_any A c Bs p W hB wx h hp hW hl
  obtain ⟨R, hR⟩ : ∃ R, (if goodB Bs then parse Bs else z0) = R := ⟨_, rfl⟩
  obtain ⟨E, hE⟩ : ∃ E : Int, (if goodB Bs then 0 else 110) = E := ⟨_, rfl⟩
  rw [hR, hE]
  have HRE := Lib.hid (And.intro hR hE)
  clear hR hE
  obtain ⟨k, hk⟩ : ∃ k, Bs.getD 0 0 = k := ⟨_, rfl⟩
  obtain ⟨g, o, rfl, hg, hcl⟩ := hr.at_ h0
  have e0 : w.cell? ⟨g, o, none⟩ = some (.int .u8 k) := by have := hcl 0 h0; rw [Nat.add_zero] at this; rw [this, ← hk]; rfl
  have hw1 := num_w32 hB 1
  have hw5 := num_w32 hB 5
  have hw9 := num_w32 hB 9
  have hw13 := num_w32 hB 13
  obtain ⟨n1, hn1⟩ : ∃ n, num Bs 1 4 = n := ⟨_, rfl⟩
  obtain ⟨n5, hn5⟩ : ∃ n, num Bs 5 4 = n := ⟨_, rfl⟩
  obtain ⟨n9, hn9⟩ : ∃ n, num Bs 9 4 = n := ⟨_, rfl⟩
  obtain ⟨n13, hn13⟩ : ∃ n, num Bs 13 4 = n := ⟨_, rfl⟩
  obtain ⟨n, hn⟩ : ∃ n, Bs.length = n := ⟨_, rfl⟩
  have NUM1 := NUM 1 4 (by decide) (by decide)
  have NUM5 := NUM 5 4 (by decide) (by decide)
  have NUM9 := NUM 9 4 (by decide) (by decide)
  have NUM13 := NUM 13 4 (by decide) (by decide)
  rw [hn1] at NUM1 hw1
  rw [hn5] at NUM5 hw5
  rw [hn9] at NUM9 hw9
  rw [hn13] at NUM13 hw13
  rw [hn] at NUM NUM1 NUM5 NUM9 NUM13 hl h0 hc ⊢
  have HNUM := Lib.hid NUM
  have HNUM1 : Hid (∀ wx, Rd wx (some ⟨g, o, none⟩) Bs → Calls Try.prog 25 #[.slice (some ⟨g, o, none⟩) n c, .int .i64 1, .int .i64 4] wx fun e w' => e = .returned (.int .u64 (n1 : Nat)) ∧ w' = wx) := Lib.hid NUM1
  have HNUM5 : Hid (∀ wx, Rd wx (some ⟨g, o, none⟩) Bs → Calls Try.prog 25 #[.slice (some ⟨g, o, none⟩) n c, .int .i64 5, .int .i64 4] wx fun e w' => e = .returned (.int .u64 (n5 : Nat)) ∧ w' = wx) := Lib.hid NUM5
  have HNUM9 : Hid (∀ wx, Rd wx (some ⟨g, o, none⟩) Bs → Calls Try.prog 25 #[.slice (some ⟨g, o, none⟩) n c, .int .i64 9, .int .i64 4] wx fun e w' => e = .returned (.int .u64 (n9 : Nat)) ∧ w' = wx) := Lib.hid NUM9
  have HNUM13 : Hid (∀ wx, Rd wx (some ⟨g, o, none⟩) Bs → Calls Try.prog 25 #[.slice (some ⟨g, o, none⟩) n c, .int .i64 13, .int .i64 4] wx fun e w' => e = .returned (.int .u64 (n13 : Nat)) ∧ w' = wx) := Lib.hid NUM13
  have HP := Lib.hid (And.intro hn1 (And.intro hn5 (And.intro hn9 hn13)))
  have HN := Lib.hid hn
  have HK := Lib.hid hk
  have HR := Lib.hid hr
  have HBY := Lib.hid hB
  have hn0 : decide (n = 0) = false := by simp; omega
  have hn0I : (0 : Int) < (n : Int) := by omega
  have hne : ¬ (n : Int) = 0 := by omega
  clear NUM NUM1 NUM5 NUM9 NUM13 hn1 hn5 hn9 hn13 hn hk hr hB hcl
  go_enter Try.func14, Try.ntmps14
  go_upto_region 3 with fail
  go_cut [4] (fun s4 wx => s4 = .pointer (some ⟨w.heap.size + 1, 0, none⟩) ∧ Hid (Blk wx (w.heap.size + 1) 32 #[.int .u8 k, .int .u32 0, .int .u32 n1, .int .i64 0, .int .u64 0, .int .u32 0, .int .u32 0, .int .u32 0, .int .u32 0, .bool false, .slice none 0 0, .int .i64 0]) ∧ Hid (Blk wx w.heap.size 32 #[.int .u8 0, .int .u32 0, .int .u32 0, .int .i64 0, .int .u64 0, .int .u32 0, .int .u32 0, .int .u32 0, .int .u32 0, .bool false, .slice none 0 0, .int .i64 0]) ∧ Below w.heap.size w wx)
  case first =>
    have HS0 : Hid (w.heap.size < w.heap.size + 1 ∧ Blk (w.alloc (.cells #[.int .u8 0, .int .u32 0, .int .u32 0, .int .i64 0, .int .u64 0, .int .u32 0, .int .u32 0, .int .u32 0, .int .u32 0, .bool false, .slice none 0 0, .int .i64 0] 32)) w.heap.size 32 #[.int .u8 0, .int .u32 0, .int .u32 0, .int .i64 0, .int .u64 0, .int .u32 0, .int .u32 0, .int .u32 0, .int .u32 0, .bool false, .slice none 0 0, .int .i64 0]) := Lib.hid ⟨by omega, Blk.new _ _ _⟩
    have e1 : (w.alloc (.cells #[.int .u8 0, .int .u32 0, .int .u32 0, .int .i64 0, .int .u64 0, .int .u32 0, .int .u32 0, .int .u32 0, .int .u32 0, .bool false, .slice none 0 0, .int .i64 0] 32)).cell? ⟨g, o, none⟩ = some (.int .u8 k) := (World.cell?_alloc_lt _ _ _ hg).trans e0
    have hrx := HR.out.alloc (.cells #[.int .u8 0, .int .u32 0, .int .u32 0, .int .i64 0, .int .u64 0, .int .u32 0, .int .u32 0, .int .u32 0, .int .u32 0, .bool false, .slice none 0 0, .int .i64 0] 32)
    have e2 : ∀ X, ((w.alloc (.cells #[.int .u8 0, .int .u32 0, .int .u32 0, .int .i64 0, .int .u64 0, .int .u32 0, .int .u32 0, .int .u32 0, .int .u32 0, .bool false, .slice none 0 0, .int .i64 0] 32)).alloc X).cell? ⟨g, o, none⟩ = some (.int .u8 k) := fun X => (World.cell?_alloc_lt _ _ _ (by simp; omega)).trans e1
    have e3 : ∀ X, ((w.alloc (.cells #[.int .u8 0, .int .u32 0, .int .u32 0, .int .i64 0, .int .u64 0, .int .u32 0, .int .u32 0, .int .u32 0, .int .u32 0, .bool false, .slice none 0 0, .int .i64 0] 32)).drew.alloc X).cell? ⟨g, o, none⟩ = some (.int .u8 k) := fun X => (World.cell?_alloc_lt _ _ _ (by simp; omega)).trans e1
    go_region_held3 (fun W => W.cell? ⟨g, o, none⟩ = some (.int .u8 k))
      (first | exact e1 | exact e2 _ | exact e3 _)
      ((first
        | (go_at_call 25; ((with_reducible refine (HNUM1.out _ ?_).mono ?_); (first | exact hrx.drew | exact hrx.drew.alloc _); rintro e wx ⟨rfl, rfl⟩))))
    all_goals
      go_wp2_with fail
      go_meet
      exact ⟨rfl, Lib.hid (blk_at (by simp)), Lib.hid ((Blk.new _ _ _).alloc _), (((Below.refl _ _).alloc (Nat.le_refl _) _).alloc (by simp) _).drew⟩
  case rest =>
    obtain ⟨rfl, HX, HZ, hbw⟩ := hcut
    obtain ⟨w1, rfl⟩ : ∃ w1 : World, w1 = wc := ⟨_, rfl⟩
    have hrx := HR.out.below hbw
    go_wp2_with fail
    refine (HNUM5.out _ hrx).mono ?_
    rintro e wx ⟨rfl, rfl⟩
    go_wp2_with fail
    refine (HNUM9.out _ hrx).mono ?_
    rintro e wx ⟨rfl, rfl⟩
    go_wp2_with fail
    refine (HNUM13.out _ hrx).mono ?_
    rintro e wx ⟨rfl, rfl⟩
    have HX0 := Lib.hid (HX.out.alloc (.cells #[.int .u32 n5, .int .u32 n9, .int .u32 n13] 27))
    have HZ0 := Lib.hid (HZ.out.alloc (.cells #[.int .u32 n5, .int .u32 n9, .int .u32 n13] 27))
    have HP0 := Lib.hid (Blk.new wx 27 #[.int .u32 n5, .int .u32 n9, .int .u32 n13])
    have hbp := hbw.alloc hbw.size (.cells #[.int .u32 n5, .int .u32 n9, .int .u32 n13] 27)
    have x0 := cells12 HX.out
    have hgz : w.heap.size + 1 < wx.heap.size := HX.out.lt
    go_upto_block 0 with fail
    obtain ⟨gp, hgp⟩ : ∃ gp, wx.heap.size = gp := ⟨_, rfl⟩
    rw [hgp] at HP0 hgz ⊢
    obtain ⟨w2, hw2⟩ : ∃ w2, wx.alloc (.cells #[.int .u32 n5, .int .u32 n9, .int .u32 n13] 27) = w2 := ⟨_, rfl⟩
    rw [hw2] at HX0 HZ0 HP0 hbp ⊢
    clear hw2 hgp HX HZ hbw hrx x0
    obtain ⟨y, hy⟩ : ∃ y, parse Bs = y := ⟨_, rfl⟩
    have HY := Lib.hid hy
    clear hy
    go_cut [4] (fun s4 wx => s4 = .pointer (some ⟨w.heap.size + 1, 0, none⟩) ∧ Hid (Blk wx w.heap.size 32 #[.int .u8 0, .int .u32 0, .int .u32 0, .int .i64 0, .int .u64 0, .int .u32 0, .int .u32 0, .int .u32 0, .int .u32 0, .bool false, .slice none 0 0, .int .i64 0]) ∧ Below w.heap.size w wx ∧ ∃ A2 c2, Hid (Blk wx (w.heap.size + 1) 32 #[.int .u8 y.k, .int .u32 y.e, .int .u32 y.s, .int .i64 y.t, .int .u64 y.v, .int .u32 y.c, .int .u32 y.b, .int .u32 y.m, .int .u32 y.n, .bool y.z, .slice A2 y.B.length c2, .int .i64 y.N]) ∧ Hid (wx.ownsRow w.heap.size 5 1 (.slice A2 y.B.length c2) y.B.length (u8s y.B)))
    case first =>
      have x0 := cells12 HX0.out
      have xf := HX0.out.frozen
      have p0 := cells3 HP0.out
      have hrx := HR.out.below hbp
      by_cases h1 : k = 1
      · subst h1
        have hy : y = ⟨1, n1, 0, 0, 0, 0, 0, 0, 0, false, [], 0⟩ := by rw [← HY.out]; unfold parse; rw [if_pos HK.out, HP.out.1]
        go_wp2_with fail
        go_meet
        subst hy
        exact ⟨rfl, Lib.hid ((HZ0.out.far (p := ⟨w.heap.size + 1, 1, none⟩) (by simp) _).far (p := ⟨w.heap.size + 1, 2, none⟩) (by simp) _), (hbp.setCell (p := ⟨w.heap.size + 1, 1, none⟩) (by simp) _).setCell (p := ⟨w.heap.size + 1, 2, none⟩) (by simp) _, none, 0, Lib.hid (blk_put (blk_put HX0.out (cs' := #[.int .u8 1, .int .u32 n1, .int .u32 n1, .int .i64 0, .int .u64 0, .int .u32 0, .int .u32 0, .int .u32 0, .int .u32 0, .bool false, .slice none 0 0, .int .i64 0]) (by simp)) (by simp)), Lib.hid (World.ownsRow_nil _ _ _ _)⟩
      by_cases h2 : k = 2
      · subst h2
        obtain ⟨m5, hm5⟩ : ∃ m, num Bs 5 8 = m := ⟨_, rfl⟩
        obtain ⟨m13, hm13⟩ : ∃ m, num Bs 13 8 = m := ⟨_, rfl⟩
        have N5 : Hid (∀ wx, Rd wx (some ⟨g, o, none⟩) Bs → Calls Try.prog 25 #[.slice (some ⟨g, o, none⟩) n c, .int .i64 5, .int .i64 8] wx fun e w' => e = .returned (.int .u64 (m5 : Nat)) ∧ w' = wx) := Lib.hid (fun wx h => by have q := HNUM.out 5 8 (by decide) (by decide) wx h; rw [hm5] at q; exact q)
        have N13 : Hid (∀ wx, Rd wx (some ⟨g, o, none⟩) Bs → Calls Try.prog 25 #[.slice (some ⟨g, o, none⟩) n c, .int .i64 13, .int .i64 8] wx fun e w' => e = .returned (.int .u64 (m13 : Nat)) ∧ w' = wx) := Lib.hid (fun wx h => by have q := HNUM.out 13 8 (by decide) (by decide) wx h; rw [hm13] at q; exact q)
        obtain ⟨t, ht⟩ : ∃ t, i64of m5 = t := ⟨_, rfl⟩
        have hi64 : IntKind.i64.wrap (m5 : Int) = t := by
          rw [← ht]
          have h1 := num_lt HBY.out 5 8
          rw [pow8, hm5] at h1
          exact wrap_i64of h1
        have hy : y = ⟨2, 0, n1, t, m13, 0, 0, 0, 0, false, [], 0⟩ := by rw [← HY.out]; unfold parse; rw [if_neg (by rw [HK.out]; decide), if_pos HK.out, HP.out.1, hm5, hm13, ht]
        clear hm5 hm13 ht
        go_wp2_with fail
        refine (N5.out _ hrx).mono ?_
        rintro e wx ⟨rfl, rfl⟩
        go_wp2_with fail
        refine (N13.out _ hrx).mono ?_
        rintro e wx ⟨rfl, rfl⟩
        go_wp2_with fail
        go_meet
        subst hy
        exact ⟨rfl, Lib.hid ((HZ0.out.far (p := ⟨w.heap.size + 1, 3, none⟩) (by simp) _).far (p := ⟨w.heap.size + 1, 4, none⟩) (by simp) _), (hbp.setCell (p := ⟨w.heap.size + 1, 3, none⟩) (by simp) _).setCell (p := ⟨w.heap.size + 1, 4, none⟩) (by simp) _, none, 0,
          Lib.hid (blk_put (blk_put HX0.out (cs' := #[.int .u8 2, .int .u32 0, .int .u32 n1, .int .i64 t, .int .u64 0, .int .u32 0, .int .u32 0, .int .u32 0, .int .u32 0, .bool false, .slice none 0 0, .int .i64 0]) (by simp)) (by simp)), Lib.hid (World.ownsRow_nil _ _ _ _)⟩
      by_cases h3 : k = 3
      · subst h3
        have hy : y = ⟨3, 0, n1, 0, 0, n5, n9, n13, 0, false, [], 0⟩ := by rw [← HY.out]; unfold parse; rw [if_neg (by rw [HK.out]; decide), if_neg (by rw [HK.out]; decide), if_pos HK.out, HP.out.1, HP.out.2.1, HP.out.2.2.1, HP.out.2.2.2]
        go_wp2_with fail
        go_meet
        subst hy
        exact ⟨rfl, Lib.hid (((HZ0.out.far (p := ⟨w.heap.size + 1, 5, none⟩) (by simp) _).far (p := ⟨w.heap.size + 1, 6, none⟩) (by simp) _).far (p := ⟨w.heap.size + 1, 7, none⟩) (by simp) _), ((hbp.setCell (p := ⟨w.heap.size + 1, 5, none⟩) (by simp) _).setCell (p := ⟨w.heap.size + 1, 6, none⟩) (by simp) _).setCell (p := ⟨w.heap.size + 1, 7, none⟩) (by simp) _, none, 0,
          Lib.hid (blk_put (blk_put (blk_put HX0.out (cs' := #[.int .u8 3, .int .u32 0, .int .u32 n1, .int .i64 0, .int .u64 0, .int .u32 n5, .int .u32 0, .int .u32 0, .int .u32 0, .bool false, .slice none 0 0, .int .i64 0]) (by simp)) (cs' := #[.int .u8 3, .int .u32 0, .int .u32 n1, .int .i64 0, .int .u64 0, .int .u32 n5, .int .u32 n9, .int .u32 0, .int .u32 0, .bool false, .slice none 0 0, .int .i64 0]) (by simp)) (by simp)), Lib.hid (World.ownsRow_nil _ _ _ _)⟩
      by_cases h4 : k = 4
      · subst h4
        obtain ⟨m17, hm17⟩ : ∃ m, num Bs 17 4 = m := ⟨_, rfl⟩
        obtain ⟨m21, hm21⟩ : ∃ m, num Bs 21 1 = m := ⟨_, rfl⟩
        obtain ⟨m22, hm22⟩ : ∃ m, num Bs 22 2 = m := ⟨_, rfl⟩
        have N17 : Hid (∀ wx, Rd wx (some ⟨g, o, none⟩) Bs → Calls Try.prog 25 #[.slice (some ⟨g, o, none⟩) n c, .int .i64 17, .int .i64 4] wx fun e w' => e = .returned (.int .u64 (m17 : Nat)) ∧ w' = wx) := Lib.hid (fun wx h => by have q := HNUM.out 17 4 (by decide) (by decide) wx h; rw [hm17] at q; exact q)
        have N21 : Hid (∀ wx, Rd wx (some ⟨g, o, none⟩) Bs → Calls Try.prog 25 #[.slice (some ⟨g, o, none⟩) n c, .int .i64 21, .int .i64 1] wx fun e w' => e = .returned (.int .u64 (m21 : Nat)) ∧ w' = wx) := Lib.hid (fun wx h => by have q := HNUM.out 21 1 (by decide) (by decide) wx h; rw [hm21] at q; exact q)
        have N22 : Hid (∀ wx, Rd wx (some ⟨g, o, none⟩) Bs → Calls Try.prog 25 #[.slice (some ⟨g, o, none⟩) n c, .int .i64 22, .int .i64 2] wx fun e w' => e = .returned (.int .u64 (m22 : Nat)) ∧ w' = wx) := Lib.hid (fun wx h => by have q := HNUM.out 22 2 (by decide) (by decide) wx h; rw [hm22] at q; exact q)
        have hw17 := num_w32 HBY.out 17
        rw [hm17] at hw17
        have hi22 : IntKind.i64.wrap (m22 : Int) = (m22 : Int) := by
          have h1 := num_lt HBY.out 22 2
          rw [pow2, hm22] at h1
          exact IntWalk.i64_in _ (by omega)
        obtain ⟨zz, hzz⟩ : ∃ zz, decide (m21 = 1) = zz := ⟨_, rfl⟩
        have hz2 : (m21 == 1) = zz := by rw [← hzz]; by_cases h : m21 = 1 <;> simp [h]
        have hz3 : ((m21 : Int) == 1) = zz := by rw [← hzz]; by_cases h : m21 = 1 <;> simp [h]; omega
        have hy : y = ⟨4, 0, n1, 0, 0, n5, n9, n13, m17, zz, Bs.drop 24, m22⟩ := by rw [← HY.out]; unfold parse; rw [if_neg (by rw [HK.out]; decide), if_neg (by rw [HK.out]; decide), if_neg (by rw [HK.out]; decide), if_pos HK.out, HP.out.1, HP.out.2.1, HP.out.2.2.1, HP.out.2.2.2, hm17, hm21, hm22, hzz]
        clear hm17 hm21 hm22 hzz
        go_wp2_with fail
        have hxg := blk_put (blk_put (blk_put HX0.out (i := 5) (u := .int .u32 n5) (cs' := #[.int .u8 4, .int .u32 0, .int .u32 n1, .int .i64 0, .int .u64 0, .int .u32 n5, .int .u32 0, .int .u32 0, .int .u32 0, .bool false, .slice none 0 0, .int .i64 0]) (by simp)) (i := 6) (u := .int .u32 n9) (cs' := #[.int .u8 4, .int .u32 0, .int .u32 n1, .int .i64 0, .int .u64 0, .int .u32 n5, .int .u32 n9, .int .u32 0, .int .u32 0, .bool false, .slice none 0 0, .int .i64 0]) (by simp)) (i := 7) (u := .int .u32 n13) (cs' := #[.int .u8 4, .int .u32 0, .int .u32 n1, .int .i64 0, .int .u64 0, .int .u32 n5, .int .u32 n9, .int .u32 n13, .int .u32 0, .bool false, .slice none 0 0, .int .i64 0]) (by simp)
        have hzg := ((HZ0.out.far (p := ⟨w.heap.size + 1, 5, none⟩) (by simp) (.int .u32 n5)).far (p := ⟨w.heap.size + 1, 6, none⟩) (by simp) (.int .u32 n9)).far (p := ⟨w.heap.size + 1, 7, none⟩) (by simp) (.int .u32 n13)
        have hbg := ((hbp.setCell (p := ⟨w.heap.size + 1, 5, none⟩) (by simp) (.int .u32 n5)).setCell (p := ⟨w.heap.size + 1, 6, none⟩) (by simp) (.int .u32 n9)).setCell (p := ⟨w.heap.size + 1, 7, none⟩) (by simp) (.int .u32 n13)
        obtain ⟨w3, hwg⟩ : ∃ wz : World, (((w2.setCell ⟨w.heap.size + 1, 5, none⟩ (.int .u32 n5)).setCell ⟨w.heap.size + 1, 6, none⟩ (.int .u32 n9)).setCell ⟨w.heap.size + 1, 7, none⟩ (.int .u32 n13)) = wz := ⟨_, rfl⟩
        rw [hwg] at hxg hzg hbg ⊢
        clear hwg
        have HX3 := Lib.hid hxg
        have HZ3 := Lib.hid hzg
        have hb3 := hbg
        clear hxg hzg hbg x0 xf
        have x0 := cells12 HX3.out
        have xf := HX3.out.frozen
        have hrx := HR.out.below hb3
        refine (N17.out _ hrx).mono ?_
        rintro e wx ⟨rfl, rfl⟩
        go_wp2_with fail
        have hxg := blk_put HX3.out (i := 8) (u := .int .u32 m17) (cs' := #[.int .u8 4, .int .u32 0, .int .u32 n1, .int .i64 0, .int .u64 0, .int .u32 n5, .int .u32 n9, .int .u32 n13, .int .u32 m17, .bool false, .slice none 0 0, .int .i64 0]) (by simp)
        have hzg := HZ3.out.far (p := ⟨w.heap.size + 1, 8, none⟩) (by simp) (.int .u32 m17)
        have hbg := hb3.setCell (p := ⟨w.heap.size + 1, 8, none⟩) (by simp) (.int .u32 m17)
        obtain ⟨w4, hwg⟩ : ∃ wz : World, (wx.setCell ⟨w.heap.size + 1, 8, none⟩ (.int .u32 m17)) = wz := ⟨_, rfl⟩
        rw [hwg] at hxg hzg hbg ⊢
        clear hwg
        have HX4 := Lib.hid hxg
        have HZ4 := Lib.hid hzg
        have hb4 := hbg
        clear hxg hzg hbg x0 xf
        have x0 := cells12 HX4.out
        have xf := HX4.out.frozen
        have hrx := HR.out.below hb4
        refine (N21.out _ hrx).mono ?_
        rintro e wx ⟨rfl, rfl⟩
        go_wp2_with fail
        have hxg := blk_put HX4.out (i := 9) (u := .bool zz) (cs' := #[.int .u8 4, .int .u32 0, .int .u32 n1, .int .i64 0, .int .u64 0, .int .u32 n5, .int .u32 n9, .int .u32 n13, .int .u32 m17, .bool zz, .slice none 0 0, .int .i64 0]) (by simp)
        have hzg := HZ4.out.far (p := ⟨w.heap.size + 1, 9, none⟩) (by simp) (.bool zz)
        have hbg := hb4.setCell (p := ⟨w.heap.size + 1, 9, none⟩) (by simp) (.bool zz)
        obtain ⟨w5, hwg⟩ : ∃ wz : World, (wx.setCell ⟨w.heap.size + 1, 9, none⟩ (.bool zz)) = wz := ⟨_, rfl⟩
        rw [hwg] at hxg hzg hbg ⊢
        clear hwg
        have HX5 := Lib.hid hxg
        have HZ5 := Lib.hid hzg
        have hb5 := hbg
        clear hxg hzg hbg x0 xf
        have x0 := cells12 HX5.out
        have xf := HX5.out.frozen
        have hrx := HR.out.below hb5
        refine (N22.out _ hrx).mono ?_
        rintro e wx ⟨rfl, rfl⟩
        by_cases hn24 : n ≤ 24
        · have hd24 : decide (24 < n) = false := by simp; omega
          have hdI : (n : Int) ≤ 24 := by omega
          have hdr : Bs.drop 24 = [] := List.drop_eq_nil_of_le (by rw [HN.out]; exact hn24)
          rw [hdr] at hy
          go_wp2_with fail
          go_meet
          subst hy
          exact ⟨rfl, Lib.hid (HZ5.out.far (p := ⟨w.heap.size + 1, 11, none⟩) (by simp) _), hb5.setCell (p := ⟨w.heap.size + 1, 11, none⟩) (by simp) _, none, 0, Lib.hid (blk_put HX5.out (by simp)), Lib.hid (World.ownsRow_nil _ _ _ _)⟩
        · have hd24 : decide (24 < n) = true := by simp; omega
          have hdI : (24 : Int) < (n : Int) := by omega
          go_wp2_with fail
          have hxg := blk_put HX5.out (i := 11) (u := .int .i64 m22) (cs' := #[.int .u8 4, .int .u32 0, .int .u32 n1, .int .i64 0, .int .u64 0, .int .u32 n5, .int .u32 n9, .int .u32 n13, .int .u32 m17, .bool zz, .slice none 0 0, .int .i64 m22]) (by simp)
          have hzg := HZ5.out.far (p := ⟨w.heap.size + 1, 11, none⟩) (by simp) (.int .i64 m22)
          have hbg := hb5.setCell (p := ⟨w.heap.size + 1, 11, none⟩) (by simp) (.int .i64 m22)
          obtain ⟨w6, hwg⟩ : ∃ wz : World, (wx.setCell ⟨w.heap.size + 1, 11, none⟩ (.int .i64 m22)) = wz := ⟨_, rfl⟩
          rw [hwg] at hxg hzg hbg ⊢
          clear hwg
          have HX6 := Lib.hid hxg
          have HZ6 := Lib.hid hzg
          have hb6 := hbg
          clear hxg hzg hbg x0 xf
          have x0 := cells12 HX6.out
          have xf := HX6.out.frozen
          have hrx := HR.out.below hb6
          obtain ⟨g', o', hgo, hgl, hcl⟩ := hrx.at_ (by rw [HN.out]; exact h0)
          obtain ⟨rfl, rfl⟩ : g = g' ∧ o = o' := by injection hgo with hgo; injection hgo with q1 q2; exact ⟨q1, q2⟩
          obtain ⟨i0, hi, hz0, hz1, hz2⟩ := info_parts info_u8
          obtain ⟨C, hC⟩ : ∃ C, Bs.drop 24 = C := ⟨_, rfl⟩
          have hCl : C.length = n - 24 := by rw [← hC, List.length_drop, HN.out]
          have HNEWS : Hid (∀ j u, (u8s C)[j]? = some u → w6.drew.cell? ((⟨g, o + 24, none⟩ : Addr).add j) = some u) := Lib.hid (by
            intro j u hu
            have hj : j < C.length := by
              rcases Nat.lt_or_ge j C.length with h | h
              · exact h
              · rw [List.getElem?_eq_none (by rw [u8s_length]; exact h)] at hu; cases hu
            rw [u8s_get hj] at hu
            injection hu with hu
            subst hu
            have e := addr_add g (o + 24) j
            rw [e, Nat.add_assoc]
            refine (hcl (24 + j) (by rw [HN.out]; omega)).trans ?_
            rw [← hC]; unfold nth; simp [List.getD_eq_getElem?_getD])
          have HONE := Lib.hid (u8s_one C)
          have HLB : Hid ((u8s C).length = (n - 24) * 1) := Lib.hid (by rw [u8s_length]; omega)
          have HSZ : Hid (w.heap.size ≤ w6.drew.heap.size) := Lib.hid hb6.size
          have hbl0 : 0 < n - 24 := by omega
          have hmx : 0 + (n - 24) ≤ maxLen := by unfold maxLen; omega
          have hby : (0 + (n - 24)) * 1 ≤ 140737488355328 := by omega
          have HCL := Lib.hid hCl
          have hc24 : ¬ c = 24 := by omega
          have hncI : (n : Int) ≤ (c : Int) := by omega
          have h24c : (24 : Int) ≤ (c : Int) := by omega
          have h24n : (24 : Int) ≤ (n : Int) := by omega
          rw [hC] at hy
          have HYY := Lib.hid hy
          clear hcl hC hCl hy
          go_region_law
            ((refine step_append_lies _ (by rfl) _ _ _ (by rfl) w.heap.size 5 i0 (.int .u8 0) 1 1 Try.underlying28 hi hz0 hz1 hz2 rfl (by omega) (.slice none 0 0) 0 [] (by rfl) (World.ownsRow_nil _ _ _ _) ⟨g, o + 24, none⟩ (n - 24) (c - 24) (u8s C) (by rfl) HLB.out HNEWS.out HONE.out hbl0 hmx hby HSZ.out w6.heap.size (by rfl) ?_; intro gg cap w7 hown7 hgrow hat hlt7; have HX7 := Lib.hid (HX6.out.drew.grown hgrow (by simp [Value.ownBlock])); have x7 := cells12 HX7.out; have xf7 := HX7.out.frozen))
          all_goals
            go_wp2_with fail
            go_meet
            have hy := HYY.out
            subst hy
            have hcl2 := HCL.out
            rw [Nat.zero_add, List.nil_append] at hown7
            have hne : (Value.slice (some ⟨gg, 0, none⟩) (n - 24) cap).ownBlock ≠ some (w.heap.size + 1) := own_blk_ne hown7 HX7.out (by decide)
            have ho8 := own_far (p := ⟨w.heap.size + 1, 10, none⟩) hown7 hne (.slice (some ⟨gg, 0, none⟩) (n - 24) cap)
            have hz8 := (HZ6.out.drew.grown hgrow (by simp [Value.ownBlock])).far (p := ⟨w.heap.size + 1, 10, none⟩) (by simp) (.slice (some ⟨gg, 0, none⟩) (n - 24) cap)
            have hb8 := ((hb6.drew.grown hgrow HSZ.out (fun k hk => by simp [Value.ownBlock] at hk)).setCell (p := ⟨w.heap.size + 1, 10, none⟩) (by simp) (.slice (some ⟨gg, 0, none⟩) (n - 24) cap))
            refine ⟨rfl, Lib.hid hz8, hb8, some ⟨gg, 0, none⟩, cap, Lib.hid ?_, Lib.hid ?_⟩
            · simp only [hcl2]
              exact blk_put HX7.out (by simp)
            · simp only [hcl2]
              exact ho8
      · have d1 : (k == 1) = false := by rw [beq_eq_false_iff_ne]; exact h1
        have d2 : (k == 2) = false := by rw [beq_eq_false_iff_ne]; exact h2
        have d3 : (k == 3) = false := by rw [beq_eq_false_iff_ne]; exact h3
        have d4 : (k == 4) = false := by rw [beq_eq_false_iff_ne]; exact h4
        have hy : y = ⟨k, 0, n1, 0, 0, 0, 0, 0, 0, false, [], 0⟩ := by rw [← HY.out]; unfold parse; rw [if_neg (by rw [HK.out]; exact h1), if_neg (by rw [HK.out]; exact h2), if_neg (by rw [HK.out]; exact h3), if_neg (by rw [HK.out]; exact h4), HP.out.1, HK.out]
        clear h1 h2 h3 h4
        go_wp2_with fail
        go_meet
        subst hy
        exact ⟨rfl, Lib.hid HZ0.out, hbp, none, 0, Lib.hid HX0.out, Lib.hid (World.ownsRow_nil _ _ _ _)⟩
    case rest =>
      obtain ⟨rfl, HZ, hbw, A2, c2, HX, HO⟩ := hcut
      obtain ⟨w3, rfl⟩ : ∃ w3 : World, w3 = wc := ⟨_, rfl⟩
      have hyok : y.Ok := HY.out ▸ parse_ok HBY.out
      have hyl : (y.B.length : Int) ≤ 1000000 := by rw [← HY.out]; exact parse_small (by rw [HN.out]; exact hl)
      have ENC := fun wx (h : Rd wx A2 y.B) => rencode_any y hyok hyl A2 c2 wx h
      have hgd : goodB Bs = (mayB y && decide (enc y = Bs)) := by rw [← HY.out]; rfl
      have hre := HRE.out
      rw [hgd, HY.out] at hre
      have heb : Byts (enc y) := enc_byts hyok
      have hcmp : ((strB (enc y)).toList == (strB Bs).toList) = decide (enc y = Bs) := text_eq ⟨strB_inj heb HBY.out, fun h => by rw [h]⟩
      obtain ⟨D, hD⟩ : ∃ D, enc y = D := ⟨_, rfl⟩
      rw [hD] at ENC hre heb hcmp
      obtain ⟨d, hd⟩ : ∃ d, D.length = d := ⟨_, rfl⟩
      have TX := fun wx (h : Rd wx A2 D) => h
      clear TX
      have HD := Lib.hid heb
      have HDL := Lib.hid hd
      unfold nv RetBytes at ENC
      obtain ⟨l, hl2⟩ : ∃ l, y.B.length = l := ⟨_, rfl⟩
      rw [hl2] at ENC HX HO
      have HL2 := Lib.hid hl2
      have x0 := cells12 HX.out
      clear hyok hyl hgd heb hD hl2
      by_cases hm : mayB y = true
      · rw [hm] at ENC hre
        simp only [if_true, hd] at ENC
        have HEN := Lib.hid ENC
        by_cases he : D = Bs
        · subst he
          simp only [decide_true, Bool.and_self, if_true] at hre
          obtain ⟨rfl, rfl⟩ := hre
          have HM := Lib.hid hm
          clear hm ENC hcmp
          go_wp2_with fail
          refine (HEN.out _ (Rd.of_own HO.out)).mono ?_
          rintro e w4 ⟨A4, c4, rfl, hown4, hb4⟩
          have hbw4 := hbw.trans (hb4.mono hbw.size)
          have HX4 := Lib.hid (HX.out.below hb4 HX.out.lt)
          have HZ4 := Lib.hid (HZ.out.below hb4 HZ.out.lt)
          have HO4 := Lib.hid (own_kept HO.out hb4)
          have k1 := run_text (P := Try.prog) w4 28 9 5 A4 c4 D Try.underlying28 Try.underlying5 Try.underlying9 HD.out (Rd.of_own hown4)
          have k2 := run_text (P := Try.prog) w4 28 9 5 (some ⟨g, o, none⟩) c D Try.underlying28 Try.underlying5 Try.underlying9 HBY.out (HR.out.below hbw4)
          rw [HDL.out] at k1
          rw [HN.out] at k2
          obtain ⟨S, hS⟩ : ∃ S, strB D = S := ⟨_, rfl⟩
          rw [hS] at k1 k2
          clear hS
          clear x0 hown4 hb4 hbw
          have x0 := cells12 HX4.out
          have y0 := cells12 HZ4.out
          have yf := HZ4.out.frozen
          go_wp2_with fail
          have hz5 := blk_set12 HZ4.out (.int .u8 y.k) (.int .u32 y.e) (.int .u32 y.s) (.int .i64 y.t) (.int .u64 y.v) (.int .u32 y.c) (.int .u32 y.b) (.int .u32 y.m) (.int .u32 y.n) (.bool y.z) (.slice A2 l c2) (.int .i64 y.N)
          have hb5 := below_set12 hbw4 (Nat.le_refl _) (.int .u8 y.k) (.int .u32 y.e) (.int .u32 y.s) (.int .i64 y.t) (.int .u64 y.v) (.int .u32 y.c) (.int .u32 y.b) (.int .u32 y.m) (.int .u32 y.n) (.bool y.z) (.slice A2 l c2) (.int .i64 y.N)
          have ho5 := own_set12 HO4.out (own_blk_ne HO4.out HZ4.out (by decide)) (.int .u8 y.k) (.int .u32 y.e) (.int .u32 y.s) (.int .i64 y.t) (.int .u64 y.v) (.int .u32 y.c) (.int .u32 y.b) (.int .u32 y.m) (.int .u32 y.n) (.bool y.z) (.slice A2 l c2) (.int .i64 y.N)
          obtain ⟨wz, hwz⟩ : ∃ wz : World, ((((((((((((w4.setCell ⟨w.heap.size, 0, none⟩ (.int .u8 y.k)).setCell ⟨w.heap.size, 1, none⟩ (.int .u32 y.e)).setCell ⟨w.heap.size, 2, none⟩ (.int .u32 y.s)).setCell ⟨w.heap.size, 3, none⟩ (.int .i64 y.t)).setCell ⟨w.heap.size, 4, none⟩ (.int .u64 y.v)).setCell ⟨w.heap.size, 5, none⟩ (.int .u32 y.c)).setCell ⟨w.heap.size, 6, none⟩ (.int .u32 y.b)).setCell ⟨w.heap.size, 7, none⟩ (.int .u32 y.m)).setCell ⟨w.heap.size, 8, none⟩ (.int .u32 y.n)).setCell ⟨w.heap.size, 9, none⟩ (.bool y.z)).setCell ⟨w.heap.size, 10, none⟩ (.slice A2 l c2)).setCell ⟨w.heap.size, 11, none⟩ (.int .i64 y.N)) = wz := ⟨_, rfl⟩
          rw [hwz] at hz5 hb5 ho5 ⊢
          clear hwz x0 y0 yf k1 k2
          have y1 := cells12 hz5
          refine bodyPost_ret (v := .tuple #[.agg #[.int .u8 y.k, .int .u32 y.e, .int .u32 y.s, .int .i64 y.t, .int .u64 y.v, .int .u32 y.c, .int .u32 y.b, .int .u32 y.m, .int .u32 y.n, .bool y.z, .slice A2 l c2, .int .i64 y.N], .int .i64 0]) (by simp [results, Try.results14, go_sem, y1]) rfl ⟨A2, c2, by unfold nv; rw [HL2.out], ?_, hb5⟩
          rw [HL2.out]
          exact ho5
        · rw [decide_eq_false he] at hre hcmp
          simp only [Bool.and_false, Bool.false_eq_true, if_false] at hre
          obtain ⟨rfl, rfl⟩ := hre
          clear hm ENC he
          go_wp2_with fail
          refine (HEN.out _ (Rd.of_own HO.out)).mono ?_
          rintro e w4 ⟨A4, c4, rfl, hown4, hb4⟩
          have hbw4 := hbw.trans (hb4.mono hbw.size)
          have HX4 := Lib.hid (HX.out.below hb4 HX.out.lt)
          have HZ4 := Lib.hid (HZ.out.below hb4 HZ.out.lt)
          have HO4 := Lib.hid (own_kept HO.out hb4)
          have k1 := run_text (P := Try.prog) w4 28 9 5 A4 c4 D Try.underlying28 Try.underlying5 Try.underlying9 HD.out (Rd.of_own hown4)
          have k2 := run_text (P := Try.prog) w4 28 9 5 (some ⟨g, o, none⟩) c Bs Try.underlying28 Try.underlying5 Try.underlying9 HBY.out (HR.out.below hbw4)
          rw [HDL.out] at k1
          rw [HN.out] at k2
          obtain ⟨S1, hS1⟩ : ∃ S, strB D = S := ⟨_, rfl⟩
          obtain ⟨S2, hS2⟩ : ∃ S, strB Bs = S := ⟨_, rfl⟩
          rw [hS1] at k1 hcmp
          rw [hS2] at k2 hcmp
          clear hS1 hS2
          clear x0 hown4 hb4 hbw
          have x0 := cells12 HX4.out
          have y0 := cells12 HZ4.out
          have yf := HZ4.out.frozen
          go_wp2_with fail
          have hz5 := blk_set12 HZ4.out (.int .u8 0) (.int .u32 0) (.int .u32 0) (.int .i64 0) (.int .u64 0) (.int .u32 0) (.int .u32 0) (.int .u32 0) (.int .u32 0) (.bool false) (.slice none 0 0) (.int .i64 0)
          have hb5 := below_set12 hbw4 (Nat.le_refl _) (.int .u8 0) (.int .u32 0) (.int .u32 0) (.int .i64 0) (.int .u64 0) (.int .u32 0) (.int .u32 0) (.int .u32 0) (.int .u32 0) (.bool false) (.slice none 0 0) (.int .i64 0)
          obtain ⟨wz, hwz⟩ : ∃ wz : World, ((((((((((((w4.setCell ⟨w.heap.size, 0, none⟩ (.int .u8 0)).setCell ⟨w.heap.size, 1, none⟩ (.int .u32 0)).setCell ⟨w.heap.size, 2, none⟩ (.int .u32 0)).setCell ⟨w.heap.size, 3, none⟩ (.int .i64 0)).setCell ⟨w.heap.size, 4, none⟩ (.int .u64 0)).setCell ⟨w.heap.size, 5, none⟩ (.int .u32 0)).setCell ⟨w.heap.size, 6, none⟩ (.int .u32 0)).setCell ⟨w.heap.size, 7, none⟩ (.int .u32 0)).setCell ⟨w.heap.size, 8, none⟩ (.int .u32 0)).setCell ⟨w.heap.size, 9, none⟩ (.bool false)).setCell ⟨w.heap.size, 10, none⟩ (.slice none 0 0)).setCell ⟨w.heap.size, 11, none⟩ (.int .i64 0)) = wz := ⟨_, rfl⟩
          rw [hwz] at hz5 hb5 ⊢
          clear hwz x0 y0 yf
          have y1 := cells12 hz5
          exact bodyPost_ret (v := .tuple #[.agg #[.int .u8 0, .int .u32 0, .int .u32 0, .int .i64 0, .int .u64 0, .int .u32 0, .int .u32 0, .int .u32 0, .int .u32 0, .bool false, .slice none 0 0, .int .i64 0], .int .i64 110]) (by simp [results, Try.results14, go_sem, y1]) rfl ⟨none, 0, rfl, World.ownsRow_nil _ _ _ _, hb5⟩
      · have hmf : mayB y = false := by simpa using hm
        rw [hmf] at ENC hre
        simp only [Bool.false_and, Bool.false_eq_true, if_false, List.length_nil] at hre ENC
        obtain ⟨rfl, rfl⟩ := hre
        have HEN := Lib.hid ENC
        clear hm hmf ENC hcmp
        go_wp2_with fail
        refine (HEN.out _ (Rd.of_own HO.out)).mono ?_
        rintro e w4 ⟨A4, c4, rfl, hown4, hb4⟩
        have hbw4 := hbw.trans (hb4.mono hbw.size)
        have HX4 := Lib.hid (HX.out.below hb4 HX.out.lt)
        have HZ4 := Lib.hid (HZ.out.below hb4 HZ.out.lt)
        have HO4 := Lib.hid (own_kept HO.out hb4)
        clear x0 hown4 hb4 hbw
        have x0 := cells12 HX4.out
        have y0 := cells12 HZ4.out
        have yf := HZ4.out.frozen
        go_wp2_with fail
        have hz5 := blk_set12 HZ4.out (.int .u8 0) (.int .u32 0) (.int .u32 0) (.int .i64 0) (.int .u64 0) (.int .u32 0) (.int .u32 0) (.int .u32 0) (.int .u32 0) (.bool false) (.slice none 0 0) (.int .i64 0)
        have hb5 := below_set12 hbw4 (Nat.le_refl _) (.int .u8 0) (.int .u32 0) (.int .u32 0) (.int .i64 0) (.int .u64 0) (.int .u32 0) (.int .u32 0) (.int .u32 0) (.int .u32 0) (.bool false) (.slice none 0 0) (.int .i64 0)
        obtain ⟨wz, hwz⟩ : ∃ wz : World, ((((((((((((w4.setCell ⟨w.heap.size, 0, none⟩ (.int .u8 0)).setCell ⟨w.heap.size, 1, none⟩ (.int .u32 0)).setCell ⟨w.heap.size, 2, none⟩ (.int .u32 0)).setCell ⟨w.heap.size, 3, none⟩ (.int .i64 0)).setCell ⟨w.heap.size, 4, none⟩ (.int .u64 0)).setCell ⟨w.heap.size, 5, none⟩ (.int .u32 0)).setCell ⟨w.heap.size, 6, none⟩ (.int .u32 0)).setCell ⟨w.heap.size, 7, none⟩ (.int .u32 0)).setCell ⟨w.heap.size, 8, none⟩ (.int .u32 0)).setCell ⟨w.heap.size, 9, none⟩ (.bool false)).setCell ⟨w.heap.size, 10, none⟩ (.slice none 0 0)).setCell ⟨w.heap.size, 11, none⟩ (.int .i64 0)) = wz := ⟨_, rfl⟩
        rw [hwz] at hz5 hb5 ⊢
        clear hwz x0 y0 yf
        have y1 := cells12 hz5
        exact bodyPost_ret (v := .tuple #[.agg #[.int .u8 0, .int .u32 0, .int .u32 0, .int .i64 0, .int .u64 0, .int .u32 0, .int .u32 0, .int .u32 0, .int .u32 0, .bool false, .slice none 0 0, .int .i64 0], .int .i64 110]) (by simp [results, Try.results14, go_sem, y1]) rfl ⟨none, 0, rfl, World.ownsRow_nil _ _ _ _, hb5⟩

theorem rdecode_any (A : Option Addr) (c : Nat) (Bs : List Int) (hB : Byts Bs) (hl : (Bs.length : Int) ≤ 1000000) (w : World) (hr : Rd w A Bs) (hc : Bs.length ≤ c) :
    Calls Try.prog 14 #[.slice A Bs.length c] w (RetNote .i64 (if goodB Bs then parse Bs else z0) (if goodB Bs then 0 else 110) w) := by
  by_cases h0 : Bs.length = 0
  · obtain rfl := List.eq_nil_of_length_eq_zero h0
    rw [bad_nil]
    exact rdecode_nil A c w
  · exact rdecode_some A c Bs hB hl (by omega) w hr hc
end Go.Proofs.Ytokolgelmikfmaa
