/-
  Rows.BitCutsSaid is proved: for every bits by value and every two places the call returns true, and the bits read as they did. No condition.
-/
import Derived.Test.YtifjanlcfjajpaaBoth
import Derived.BigRegion
namespace Go.Proofs.Ytifjanlcfjajpaa
open Go.ChangeShapes Go.WideShapes Go.ChangeAt Go.RowKit
open Pl
set_option linter.unusedVariables false

theorem boxBlk {w : World} {t : TypeId} {cs : Array Value} : Blk (w.alloc (.cells cs t)) w.heap.size t cs := Blk.new w t cs

set_option maxRecDepth 100000 in
set_option maxHeartbeats 4000000 in
theorem walk_BitCuts (w : World) (A : Option Addr) (c : Nat) (B : List Int) (N : Int) (hr : Rd w A B) (hB : Byts B) (hN : -9223372036854775808 ≤ N ∧ N ≤ 9223372036854775807) (p : Int) (hp : -9223372036854775808 ≤ p ∧ p ≤ 9223372036854775807) (t : Int) (ht : -9223372036854775808 ≤ t ∧ t ≤ 9223372036854775807) :
    Calls Try.prog 10 #[.agg #[.slice A B.length c, .int .i64 N], .int .i64 p, .int .i64 t] w fun e w' => e = .returned (.bool true) ∧ Below w.heap.size w w' := by
  by_cases hbig : (1500 : Int) < (B.length : Int)
  · have hd' : decide (1500 < B.length) = true := by simp; omega
    clear hN hB hr hp ht
    go_enter Try.func10, Try.ntmps10
    go_wp2_with fail
    refine (known_any _).mono ?_
    rintro e w1 ⟨rfl, hb1⟩
    go_wp2_with fail
    go_ret
    exact ⟨rfl, ((Below.refl _ _).alloc (Nat.le_refl _) _).trans (hb1.mono (by simp))⟩
  · have hd' : decide (1500 < B.length) = false := by simp; omega
    obtain ⟨B', N', x, ⟨hB', hBl⟩, hx, PP, RP⟩ := cut_both B N p t hB hN (by omega)
    have PPH := Lib.hid PP
    have RPH := Lib.hid RP
    clear PP RP
    have HBB := Lib.hid hB
    have HBB' := Lib.hid hB'
    have hx0 := hx.1
    have hx1 := hx.2
    have hxx : (x == x) = true := beq_self_eq_true x
    obtain ⟨n, hn⟩ : ∃ n, B.length = n := ⟨_, rfl⟩
    obtain ⟨m, hm⟩ : ∃ n, B'.length = n := ⟨_, rfl⟩
    have HN := Lib.hid hn
    have HM := Lib.hid hm
    have hl : n ≤ 1500 := by omega
    rw [hm] at hBl
    have hm8 : (m : Int) ≤ 1000000 := by omega
    have HL := Lib.hid (fun wx (h : Rd wx A B) => by
      have := lent_any A c B N wx h (by omega)
      rwa [hn] at this)
    rw [hn] at hd' PPH RPH
    rw [hn]
    clear hB hN hp ht hx hB' hbig hn hm
    go_enter Try.func10, Try.ntmps10
    go_wp2_with fail
    refine (known_any _).mono ?_
    rintro e w1 ⟨rfl, hb1⟩
    have hbw1 : Below w.heap.size w w1 := ((Below.refl _ _).alloc (Nat.le_refl _) _).trans (hb1.mono (by simp))
    have HT3 := Lib.hid (boxBlk.below hb1 (by simp) : Blk w1 w.heap.size 24 #[.slice A n c, .int .i64 N])
    have t30 := HT3.out.cell 0
    have t31 := HT3.out.cell 1
    clear hb1
    go_wp2_with fail
    refine (HL.out _ (hr.below hbw1)).mono ?_
    rintro e w2 ⟨A2, c2, rfl, hown2, hb2⟩
    rw [HN.out] at hown2 ⊢
    have hz2 := HT3.out.lt
    have HT3b := Lib.hid ((HT3.out.below hb2 hz2).alloc (.cells #[.slice A2 n c2, .int .i64 N] 24))
    have HT7 := Lib.hid (boxBlk (w := w2) (t := 24) (cs := #[.slice A2 n c2, .int .i64 N]))
    have hbw2 : Below w.heap.size w w2 := hbw1.trans (hb2.mono hbw1.size)
    have hR2 : Rd w2 A2 B := Rd.of_own hown2
    have hsz2 : w.heap.size < w2.heap.size := by have := hb2.size; omega
    clear t30 t31 hown2 hb2 HT3
    have t30 := HT3b.out.cell 0
    have t31 := HT3b.out.cell 1
    have t70 := HT7.out.cell 0
    have t71 := HT7.out.cell 1
    go_wp2_with fail
    refine (PPH.out _ _ _ (hR2.alloc _)).mono ?_
    rintro e w5 ⟨A5, c5, rfl, own5, hb5⟩
    rw [HM.out] at own5 ⊢
    have HT7c := Lib.hid ((HT7.out.below hb5 (by simp)).alloc (.cells #[.slice A5 m c5, .int .i64 N'] 24))
    have HT3c := Lib.hid ((HT3b.out.below hb5 (by simp; omega)).alloc (.cells #[.slice A5 m c5, .int .i64 N'] 24))
    have HT8 := Lib.hid (boxBlk (w := w5) (t := 24) (cs := #[.slice A5 m c5, .int .i64 N']))
    have hR5 := ((hR2.alloc (.cells #[.slice A2 n c2, .int .i64 N] 24)).below hb5)
    have hbw5 : Below w.heap.size w w5 := (hbw2.alloc (by omega) _).trans (hb5.mono (by simp; omega))
    have hz5 : w2.heap.size + 1 ≤ w5.heap.size := by have := hb5.size; simpa using this
    have hB5 : Below w2.heap.size w2 w5 := ((Below.refl _ _).alloc (Nat.le_refl _) _).trans (hb5.mono (by simp))
    clear t30 t31 t70 t71 HT3b HT7 hb5
    have t30 := HT3c.out.cell 0
    have t31 := HT3c.out.cell 1
    have t70 := HT7c.out.cell 0
    have t71 := HT7c.out.cell 1
    have t80 := HT8.out.cell 0
    have t81 := HT8.out.cell 1
    go_wp2_with fail
    refine (RPH.out _ _ _ ((hr.below hbw5).alloc _)).mono ?_
    rintro e w6 ⟨A6, c6, rfl, own6, hb6⟩
    rw [HM.out] at own6 ⊢
    have HT8d := Lib.hid ((HT8.out.below hb6 (by simp)).alloc (.cells #[.slice A6 m c6, .int .i64 N'] 24))
    have HT7d := Lib.hid ((HT7c.out.below hb6 (by simp; omega)).alloc (.cells #[.slice A6 m c6, .int .i64 N'] 24))
    have HT3d := Lib.hid ((HT3c.out.below hb6 (by simp; omega)).alloc (.cells #[.slice A6 m c6, .int .i64 N'] 24))
    have HT10 := Lib.hid (boxBlk (w := w6) (t := 24) (cs := #[.slice A6 m c6, .int .i64 N']))
    have hR6 := ((hR5.alloc (.cells #[.slice A5 m c5, .int .i64 N'] 24)).below hb6)
    have hbw6 : Below w.heap.size w w6 := (hbw5.alloc (by omega) _).trans (hb6.mono (by simp; omega))
    have hz6 : w5.heap.size + 1 ≤ w6.heap.size := by have := hb6.size; simpa using this
    have hR6p := Rd.of_own (B := B') own6
    have own5b : w6.ownsRow (w2.heap.size + 1) 5 1 (.slice A5 m c5) m (u8s B') := ((own_base own5 (by simp)).alloc (.cells #[.slice A5 m c5, .int .i64 N'] 24)).kept (row := none) ⟨hb6.os, hb6.tape, hb6.output, hb6.size, fun j hj _ => hb6.block j hj⟩ (by cases (Value.slice A5 m c5).ownBlock <;> simp)
    have hR6q := Rd.of_own (B := B') own5b
    have SA := Lib.hid (fun wx (h1 : Rd wx A5 B') (h2 : Rd wx A6 B') => by
      have := same_any A5 A6 c5 c6 B' B' N' N' wx h1 h2 HBB'.out HBB'.out
      rwa [HM.out] at this)
    have SB := Lib.hid (fun wx (h1 : Rd wx A2 B) (h2 : Rd wx A B) => by
      have := same_any A2 A c2 c B B N N wx h1 h2 HBB.out HBB.out
      rwa [HN.out] at this)
    have hB6 : Below w2.heap.size w2 w6 := (hB5.alloc (by omega) _).trans (hb6.mono (by simp; omega))
    clear t30 t31 t70 t71 t80 t81 HT3c HT7c HT8 hb6 hR5 own6 own5
    have t30 := HT3d.out.cell 0
    have t31 := HT3d.out.cell 1
    have t70 := HT7d.out.cell 0
    have t71 := HT7d.out.cell 1
    have t80 := HT8d.out.cell 0
    have t81 := HT8d.out.cell 1
    have t100 := HT10.out.cell 0
    have t101 := HT10.out.cell 1
    go_wp2_with fail
    refine (SA.out _ (hR6q.alloc _) (hR6p.alloc _)).mono ?_
    rintro e w7 ⟨rfl, hb7⟩
    have HT8e := Lib.hid (HT8d.out.below hb7 (by simp; omega))
    have HT7e := Lib.hid (HT7d.out.below hb7 (by simp; omega))
    have HT3e := Lib.hid (HT3d.out.below hb7 (by simp; omega))
    have hR7 := (hR6.alloc (.cells #[.slice A6 m c6, .int .i64 N'] 24)).below hb7
    have hbw7 : Below w.heap.size w w7 := (hbw6.alloc (by omega) _).trans (hb7.mono (by simp; omega))
    have own7 : w7.ownsRow (w2.heap.size + 1) 5 1 (.slice A5 m c5) m (u8s B') := (own5b.alloc (.cells #[.slice A6 m c6, .int .i64 N'] 24)).kept (row := none) ⟨hb7.os, hb7.tape, hb7.output, hb7.size, fun j hj _ => hb7.block j hj⟩ (by cases (Value.slice A5 m c5).ownBlock <;> simp)
    have hz7 : w6.heap.size + 1 ≤ w7.heap.size := by have := hb7.size; simpa using this
    have hB7 : Below w2.heap.size w2 w7 := (hB6.alloc (by omega) _).trans (hb7.mono (by simp; omega))
    clear t30 t31 t70 t71 t80 t81 t100 t101 HT3d HT7d HT8d HT10 hb7 hR6 own5b hR6p hR6q
    go_wp2_with fail
    go_loopw [13] (fun i wr => ∃ k B2, k ≤ m ∧ i = .int .i64 (k : Nat) ∧ wr.ownsRow (w2.heap.size + 1) 5 1 (.slice A5 m c5) m (u8s B2) ∧ Blk wr w5.heap.size 24 #[.slice A5 m c5, .int .i64 N'] ∧ Below (w2.heap.size + 1) w7 wr) (fun i _ => m - (intOf i).toNat)
    case atStart => exact ⟨0, B', Nat.zero_le _, rfl, own7, HT8e.out, Below.refl _ _⟩
    case round =>
      obtain ⟨k, B2, hk, rfl, hown, hbk, hbel⟩ := hrel
      have t80 := hbk.cell 0
      have t81 := hbk.cell 1
      have hk' : (k : Int) ≤ m := by omega
      have HK8 := Lib.hid hbk
      by_cases h0 : k = m
      · subst h0
        have T3 := HT3e.out.below hbel (by omega)
        have T7 := HT7e.out.below hbel (by omega)
        have t30 := T3.cell 0
        have t31 := T3.cell 1
        have t70 := T7.cell 0
        have t71 := T7.cell 1
        have hbwr : Below w.heap.size w wr := hbw7.trans (hbel.mono (by omega))
        have hRr : Rd wr A2 B := hR2.below (hB7.trans (hbel.mono (by omega)))
        clear T3 T7 hbk hbel
        go_wp2_with fail
        refine (SB.out _ hRr (hr.below hbwr)).mono ?_
        rintro e w8 ⟨rfl, hb8⟩
        go_wp2_with fail
        go_ret
        exact ⟨rfl, hbwr.trans (hb8.mono hbwr.size)⟩
      · have h1 : decide (k < m) = true := by simp; omega
        have hkm : (k : Int) < m := by omega
        have hkm' : k < m := by omega
        obtain ⟨g, rfl, hbg, hlg, hcg, hfg⟩ := own_form hown (by omega)
        have hck := hcg k hkm'
        have hg8 : ¬ w5.heap.size = g := fun e => own_blk_ne hown hbk (by decide) (by simp [Value.ownBlock, e])
        clear hbk hcg h0
        go_wp2_with fail
        go_region
        go_wp2_with fail
        have hst := (hown.stored k (.int .u8 (bits .xor .u8 (nth B2 k) 255))).1
        rw [← u8s_set] at hst
        go_roundw
        case rel => exact ⟨k + 1, _, by omega, by go_num, hst, HK8.out.far (p := ⟨g, k, none⟩) hg8 _, (hbel.setCell (p := ⟨g, k, none⟩) hbg _).drew⟩
        case measure => simp [intOf]; omega

set_option maxRecDepth 100000 in
theorem lifted_BitCuts (os : Os) (started : os.Started) (H : Type) (enc : TypeId × Value → H) :
    ReturnsInHanded {} Try.checked os 10 .any (Rows.bitCutsSpec.pre6 enc Try.prog Try.f10 Rows.bitCutsRow.domain false) (Rows.bitCutsSpec.post enc Try.prog Try.f10 false true false false) := by
  refine returnsInHanded_of_change (C := Try.checked) own started (by kernel_rfl) Try.func10
    (ChangeSpec.witness6 (enc := enc) (C := Try.checked) false ⟨#[], #[.agg #[.slice none 0 0, .int .i64 0], .int .i64 0, .int .i64 0], []⟩ 8 (by kernel_rfl) (by kernel_rfl) (by kernel_rfl) (by kernel_rfl)) ?_
  intro W base args ds gs before hval0 hW hcnd _
  have hval : ∀ (j : Nat) t v, Try.f10.params[j]? = some t → args[j]? = some v → Value.okWide Try.prog W .any base t v := hval0
  have hW' := hW
  obtain ⟨p, q, hA0, hV, rfl, hfz, hnd⟩ := hW
  have hA : DataW.TrodAll enc Try.prog W 0 (fun _ => true) true Try.f10.params.toList args.toList ds p := hA0
  rw [Try.params10] at hA hval
  obtain ⟨v0, vs0, d0, ds0, p0, q0, hargs, rfl, rfl, h0, r0⟩ := trodAll_cons hA
  obtain ⟨v1, vs1, d1, ds1, p1, q1, rfl, rfl, rfl, h1, r1⟩ := trodAll_cons r0
  obtain ⟨v2, vs2, d2, ds2, p2, q2, rfl, rfl, rfl, h2, r2⟩ := trodAll_cons r1
  obtain ⟨rfl, rfl, rfl⟩ := trodAll_nil r2
  obtain rfl : args = #[v0, v1, v2] := by cases args; simp_all
  obtain ⟨rfl, rfl⟩ := trodVars_none hV
  have k0 := h0
  have lt0 : ∀ x ∈ p0, x.block < W.heap.size := by obtain ⟨m, hm⟩ := k0; exact DataW.trod_lt m _ _ _ hm
  obtain ⟨A0, c0, B0, N0, rfl, rd0, by0, rg0⟩ := open_bits (hval 0 24 v0 rfl rfl) h0
  obtain ⟨a1, rfl, rfl, rfl, w1⟩ := open_int Try.underlying3 (hval 1 3 v1 rfl rfl) h1
  obtain ⟨a2, rfl, rfl, rfl, w2⟩ := open_int Try.underlying3 (hval 2 3 v2 rfl rfl) h2
  clear hA0 hval0
  refine (walk_BitCuts W A0 c0 B0 N0 rd0 by0 rg0 a1 (range_i64 w1) a2 (range_i64 w2)).mono fun e W' ⟨he, bel⟩ => ?_
  subst he
  exact ⟨_, rfl, _, _, _, [], _, [], hW', trodAll_mk1 (shut_bool Try.underlying4 _), (trodAll_cons_mk (Below.trod laidOut (by kernel_rfl) (of_decide_eq_true (by kernel_rfl)) k0 bel lt0) (trodAll_cons_mk (shut_int Try.underlying3 w1) (trodAll_cons_mk (shut_int Try.underlying3 w2) trodAll_mk0))), rfl, bel.frame _, fun h => by cases h⟩

theorem over_BitCuts : Rows.bitCutsRow.holds Try.pinned (OpenSpec.ofChange Rows.bitCutsSpec) :=
  OpenClaim.holds_of_wide 10 Try.f10 rfl rfl rfl rfl rfl rfl rfl ⟨rfl, rfl, rfl, rfl, rfl⟩ rfl rfl rfl rfl rfl (by kernel_rfl) Try.func10 (by kernel_rfl)
    (of_decide_eq_true (by kernel_rfl)) (by unfold Func.isWrapper; first | (rw [if_pos (by decide +kernel)]; kernel_rfl) | (rw [if_neg (by decide +kernel)]; exact ⟨rfl, rfl⟩))
    (fun os started H enc _ => lifted_BitCuts os started H enc)

theorem bitCuts_holds : Rows.BitCutsSaid := over_BitCuts

#print axioms bitCuts_holds
end Go.Proofs.Ytifjanlcfjajpaa
