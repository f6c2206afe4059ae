/-
  Rows.BitPiecesSaid is proved: for all bits by value and every number, putting it whole and putting it in two pieces answer the same bits. No condition.
-/
import Derived.Test.YtifjanlcfjajpaaBoth
import Derived.Test.YtifjanlcfjajpaaPl5
namespace Go.Proofs.Ytifjanlcfjajpaa
open Go.ChangeShapes Go.WideShapes Go.ChangeAt Go.RowKit
open Pl
set_option linter.unusedVariables false

theorem pieBlk {w : World} {t : TypeId} {cs : Array Value} : Blk (w.alloc (.cells cs t)) w.heap.size t cs := Blk.new w t cs

set_option maxRecDepth 100000 in
set_option maxHeartbeats 4000000 in
theorem walk_BitPieces (w : World) (A : Option Addr) (c : Nat) (B : List Int) (N : Int) (hr : Rd w A B) (hB : Byts B) (hN : -9223372036854775808 ≤ N ∧ N ≤ 9223372036854775807) (v : Int) (hv : U64 v) (wd : Int) (hwd : 0 ≤ wd ∧ wd < 256) (pl : Int) (hpl : 0 ≤ pl ∧ pl < 256) :
    Calls Try.prog 8 #[.agg #[.slice A B.length c, .int .i64 N], .int .u64 v, .int .u8 wd, .int .u8 pl] w fun e w' => e = .returned (.bool true) ∧ Below w.heap.size w w' := by
  by_cases hbig : (1500 : Int) < (B.length : Int)
  · have hd' : decide (1500 < B.length) = true := by simp; omega
    clear hN hB hr
    go_enter Try.func8, Try.ntmps8
    go_wp2_with fail
    refine (known_any _).mono ?_
    rintro e w1 ⟨rfl, hb1⟩
    go_wp2_with fail
    go_ret
    exact ⟨rfl, ((Below.refl _ _).alloc (Nat.le_refl _) _).trans (hb1.mono (by simp))⟩
  · have hd' : decide (1500 < B.length) = false := by simp; omega
    obtain ⟨u, rfl⟩ := Int.eq_ofNat_of_zero_le hv.1
    obtain ⟨W, hW⟩ : ∃ W : Nat, wd % 65 = (W : Int) := ⟨(wd % 65).toNat, by omega⟩
    obtain ⟨L, hL⟩ : ∃ L, bitsOf B (someN B N) = L := ⟨_, rfl⟩
    obtain ⟨m, hm⟩ : ∃ m, L.length = m := ⟨_, rfl⟩
    have hm12 : (m : Int) ≤ 12000 := by rw [← hm, ← hL, bitsOf_length]; unfold someN; omega
    have hSM := fun wx (h : Rd wx A B) => some_any A c B N wx h hB hN (by omega)
    rw [hL] at hSM
    obtain ⟨n, hn⟩ : ∃ n, B.length = n := ⟨_, rfl⟩
    rw [hn] at hd' hSM
    have hl : n ≤ 1500 := by omega
    have HSM := Lib.hid hSM
    have HM := Lib.hid hm
    have hW64 : W ≤ 64 := by omega
    have hmod0 := Int.emod_nonneg pl (b := (W : Int) + 1) (by omega)
    have hmod1 := Int.emod_lt_of_pos pl (b := (W : Int) + 1) (by omega)
    obtain ⟨F, hF⟩ : ∃ F : Nat, pl % ((W : Int) + 1) = (F : Int) := ⟨(pl % ((W : Int) + 1)).toNat, by omega⟩
    have hFm : F ≤ W := by omega
    clear hmod0 hmod1
    obtain ⟨G, hG⟩ : ∃ G : Nat, (W : Int) - (F : Int) = (G : Int) := ⟨((W : Int) - (F : Int)).toNat, by omega⟩
    rw [hn]
    have hwd0 := hwd.1
    have hpl0 := hpl.1
    have hwd1 : wd ≤ 255 := by omega
    have hpl1 : pl ≤ 255 := by omega
    clear hB hN hbig hSM hL hm hn hwd hpl
    go_enter Try.func8, Try.ntmps8
    go_wp2_with fail
    refine (known_any _).mono ?_
    rintro e w1 ⟨rfl, hb1⟩
    have hbw1 : Below w.heap.size w w1 := ((Below.refl _ _).alloc (Nat.le_refl _) _).trans (hb1.mono (by simp))
    have HT5 := Lib.hid (pieBlk.below hb1 (by simp) : Blk w1 w.heap.size 24 #[.slice A n c, .int .i64 N])
    have t50 := HT5.out.cell 0
    have t51 := HT5.out.cell 1
    clear hb1
    go_wp2_with fail
    refine (HSM.out _ (hr.below hbw1)).mono ?_
    rintro e w2 ⟨A2, c2, B2, rfl, hp2, own2, hb2⟩
    rw [HM.out]
    have HP2 := Lib.hid hp2
    have hB2 : (B2.length : Int) ≤ 2000 := by have := hp2.len; have := HM.out; omega
    have hbw2 : Below w.heap.size w w2 := hbw1.trans (hb2.mono hbw1.size)
    have hR2 := Rd.of_own own2
    clear t50 t51 HT5 own2 hb2 hp2
    have hGF : G + F = W := by omega
    have PU := fun (x V : Nat) (hx : U64 x) (hV : V ≤ 64) wx (h : Rd wx A2 B2) => by
      have := put_sound A2 c2 B2 L x V wx h HP2.out (by omega) hx hV
      rw [HM.out] at this
      exact this
    have HPU := Lib.hid PU
    clear PU
    by_cases h64 : F < 64
    · have hd64 : decide (F < 64) = true := by simp; omega
      obtain ⟨H, hH⟩ : ∃ H : Nat, u / 2 ^ F = H := ⟨_, rfl⟩
      have hHi : (u : Int) / 2 ^ F = (H : Int) := by rw [← hH]; simp
      have hUH : U64 (H : Int) := by
        have := Nat.div_le_self u (2 ^ F)
        have h2 := hv
        simp only [U64] at h2 ⊢
        omega
      have hLL : L ++ nbits H G ++ nbits u F = L ++ nbits u W := by rw [← hGF, nbits_add, hH, List.append_assoc]
      have HHi := Lib.hid hHi
      clear hH hHi
      have HLL := Lib.hid hLL
      have HGF := Lib.hid hGF
      clear hLL hGF
      go_wp2_with fail
      refine (HPU.out u W hv hW64 _ (hR2.alloc _)).mono ?_
      rintro e w3 ⟨A3, c3, B3, rfl, hp3, own3, hb3⟩
      have hl3 : (L ++ nbits u W).length = m + W := by rw [List.length_append, nbits_length, HM.out]
      rw [hl3]
      have HT9 := Lib.hid ((pieBlk (w := w2) (t := 24) (cs := #[.slice A2 B2.length c2, .int .i64 (m : Int)])).below hb3 (by simp))
      have hR2b := ((hR2.alloc (.cells #[.slice A2 B2.length c2, .int .i64 (m : Int)] 24)).below hb3)
      have hR3 := Rd.of_own own3
      have HP3 := Lib.hid hp3
      have hbw3 : Below w.heap.size w w3 := (hbw2.alloc hbw2.size _).trans (hb3.mono (by have := hbw2.size; simp; omega))
      have hz3 := HT9.out.lt
      rw [Int.natCast_add]
      have t90 := (HT9.out.alloc (.cells #[.slice A3 B3.length c3, .int .i64 ((m : Int) + (W : Int))] 24)).cell 0
      have t91 := (HT9.out.alloc (.cells #[.slice A3 B3.length c3, .int .i64 ((m : Int) + (W : Int))] 24)).cell 1
      clear own3 hb3 hp3 hl3
      go_wp2_with fail
      rw [HHi.out]
      refine (HPU.out H G hUH (by have := HGF.out; omega) _ (hR2b.alloc _)).mono ?_
      rintro e w4 ⟨A4, c4, B4, rfl, hp4, own4, hb4⟩
      have hl4 : (L ++ nbits H G).length = m + G := by rw [List.length_append, nbits_length, HM.out]
      rw [hl4]
      have HT13 := Lib.hid ((pieBlk (w := w3) (t := 24) (cs := #[.slice A3 B3.length c3, .int .i64 ((m : Int) + (W : Int))])).below hb4 (by simp))
      have hR3b := ((hR3.alloc (.cells #[.slice A3 B3.length c3, .int .i64 ((m : Int) + (W : Int))] 24)).below hb4)
      have hR4 := Rd.of_own own4
      have PUT := put_sound A4 c4 B4 (L ++ nbits H G) u F (w4.alloc (.cells #[.slice A4 B4.length c4, .int .i64 ((m : Int) + (G : Int))] 24)) (hR4.alloc _) hp4 (by have := hp4.len; rw [hl4] at this; have := HGF.out; omega) hv (by omega)
      rw [HLL.out, hl4, Int.natCast_add] at PUT
      have HPUT := Lib.hid PUT
      have hbw4 : Below w.heap.size w w4 := (hbw3.alloc hbw3.size _).trans (hb4.mono (by have := hbw3.size; simp; omega))
      have hz4 := HT13.out.lt
      rw [Int.natCast_add]
      clear own4 hb4 hp4 hl4 PUT t90 t91 HT9 hR2b hR3
      go_wp2_with fail
      refine HPUT.out.mono ?_
      rintro e w5 ⟨A5, c5, B5, rfl, hp5, own5, hb5⟩
      have hl5 : (L ++ nbits u W).length = m + W := by rw [List.length_append, nbits_length, HM.out]
      rw [hl5, Int.natCast_add]
      have hBB : B5 = B3 := packs_inj hp5 HP3.out
      subst hBB
      have HT13c := Lib.hid ((HT13.out.alloc (.cells #[.slice A4 B4.length c4, .int .i64 ((m : Int) + (G : Int))] 24)).below hb5 (by simp; omega))
      have hR3c := ((hR3b.alloc (.cells #[.slice A4 B4.length c4, .int .i64 ((m : Int) + (G : Int))] 24)).below hb5)
      have hR5 := Rd.of_own own5
      have hbw5 : Below w.heap.size w w5 := (hbw4.alloc hbw4.size _).trans (hb5.mono (by have := hbw4.size; simp; omega))
      have HSA := Lib.hid (fun wx (h1 : Rd wx A3 B5) (h2 : Rd wx A5 B5) => same_any A3 A5 c3 c5 B5 B5 ((m : Int) + (W : Int)) ((m : Int) + (W : Int)) wx h1 h2 hp5.byts hp5.byts)
      have hz5 := HT13c.out.lt
      have s0 := (HT13c.out.alloc (.cells #[.slice A5 B5.length c5, .int .i64 ((m : Int) + (W : Int))] 24)).cell 0
      have s1 := (HT13c.out.alloc (.cells #[.slice A5 B5.length c5, .int .i64 ((m : Int) + (W : Int))] 24)).cell 1
      clear own5 hb5 hp5 hl5 HT13 hR3b HPUT HP3
      go_wp2_with fail
      refine (HSA.out _ (hR3c.alloc _) (hR5.alloc _)).mono ?_
      rintro e w6 ⟨rfl, hb6⟩
      simp only [decide_true, Bool.and_self]
      go_wp2_with fail
      go_ret
      exact ⟨rfl, (hbw5.alloc hbw5.size _).trans (hb6.mono (by have := hbw5.size; simp; omega))⟩
    · have hd64 : decide (F < 64) = false := by simp; omega
      obtain ⟨H, hH⟩ : ∃ H : Nat, H = 0 := ⟨_, rfl⟩
      have hUH : U64 (H : Int) := by rw [hH]; simp only [U64]; decide
      have hG0 : G = 0 := by omega
      have hLL : L ++ nbits H G ++ nbits u F = L ++ nbits u W := by rw [← hGF, hG0, Nat.zero_add]; simp [nbits]
      subst hH
      clear hG0
      have HLL := Lib.hid hLL
      have HGF := Lib.hid hGF
      clear hLL hGF
      go_wp2_with fail
      refine (HPU.out u W hv hW64 _ (hR2.alloc _)).mono ?_
      rintro e w3 ⟨A3, c3, B3, rfl, hp3, own3, hb3⟩
      have hl3 : (L ++ nbits u W).length = m + W := by rw [List.length_append, nbits_length, HM.out]
      rw [hl3]
      have HT9 := Lib.hid ((pieBlk (w := w2) (t := 24) (cs := #[.slice A2 B2.length c2, .int .i64 (m : Int)])).below hb3 (by simp))
      have hR2b := ((hR2.alloc (.cells #[.slice A2 B2.length c2, .int .i64 (m : Int)] 24)).below hb3)
      have hR3 := Rd.of_own own3
      have HP3 := Lib.hid hp3
      have hbw3 : Below w.heap.size w w3 := (hbw2.alloc hbw2.size _).trans (hb3.mono (by have := hbw2.size; simp; omega))
      have hz3 := HT9.out.lt
      rw [Int.natCast_add]
      have t90 := (HT9.out.alloc (.cells #[.slice A3 B3.length c3, .int .i64 ((m : Int) + (W : Int))] 24)).cell 0
      have t91 := (HT9.out.alloc (.cells #[.slice A3 B3.length c3, .int .i64 ((m : Int) + (W : Int))] 24)).cell 1
      clear own3 hb3 hp3 hl3
      go_wp2_with fail
      refine (HPU.out 0 G hUH (by have := HGF.out; omega) _ (hR2b.alloc _)).mono ?_
      rintro e w4 ⟨A4, c4, B4, rfl, hp4, own4, hb4⟩
      have hl4 : (L ++ nbits 0 G).length = m + G := by rw [List.length_append, nbits_length, HM.out]
      rw [hl4]
      have HT13 := Lib.hid ((pieBlk (w := w3) (t := 24) (cs := #[.slice A3 B3.length c3, .int .i64 ((m : Int) + (W : Int))])).below hb4 (by simp))
      have hR3b := ((hR3.alloc (.cells #[.slice A3 B3.length c3, .int .i64 ((m : Int) + (W : Int))] 24)).below hb4)
      have hR4 := Rd.of_own own4
      have PUT := put_sound A4 c4 B4 (L ++ nbits 0 G) u F (w4.alloc (.cells #[.slice A4 B4.length c4, .int .i64 ((m : Int) + (G : Int))] 24)) (hR4.alloc _) hp4 (by have := hp4.len; rw [hl4] at this; have := HGF.out; omega) hv (by omega)
      rw [HLL.out, hl4, Int.natCast_add] at PUT
      have HPUT := Lib.hid PUT
      have hbw4 : Below w.heap.size w w4 := (hbw3.alloc hbw3.size _).trans (hb4.mono (by have := hbw3.size; simp; omega))
      have hz4 := HT13.out.lt
      rw [Int.natCast_add]
      clear own4 hb4 hp4 hl4 PUT t90 t91 HT9 hR2b hR3
      go_wp2_with fail
      refine HPUT.out.mono ?_
      rintro e w5 ⟨A5, c5, B5, rfl, hp5, own5, hb5⟩
      have hl5 : (L ++ nbits u W).length = m + W := by rw [List.length_append, nbits_length, HM.out]
      rw [hl5, Int.natCast_add]
      have hBB : B5 = B3 := packs_inj hp5 HP3.out
      subst hBB
      have HT13c := Lib.hid ((HT13.out.alloc (.cells #[.slice A4 B4.length c4, .int .i64 ((m : Int) + (G : Int))] 24)).below hb5 (by simp; omega))
      have hR3c := ((hR3b.alloc (.cells #[.slice A4 B4.length c4, .int .i64 ((m : Int) + (G : Int))] 24)).below hb5)
      have hR5 := Rd.of_own own5
      have hbw5 : Below w.heap.size w w5 := (hbw4.alloc hbw4.size _).trans (hb5.mono (by have := hbw4.size; simp; omega))
      have HSA := Lib.hid (fun wx (h1 : Rd wx A3 B5) (h2 : Rd wx A5 B5) => same_any A3 A5 c3 c5 B5 B5 ((m : Int) + (W : Int)) ((m : Int) + (W : Int)) wx h1 h2 hp5.byts hp5.byts)
      have hz5 := HT13c.out.lt
      have s0 := (HT13c.out.alloc (.cells #[.slice A5 B5.length c5, .int .i64 ((m : Int) + (W : Int))] 24)).cell 0
      have s1 := (HT13c.out.alloc (.cells #[.slice A5 B5.length c5, .int .i64 ((m : Int) + (W : Int))] 24)).cell 1
      clear own5 hb5 hp5 hl5 HT13 hR3b HPUT HP3
      go_wp2_with fail
      refine (HSA.out _ (hR3c.alloc _) (hR5.alloc _)).mono ?_
      rintro e w6 ⟨rfl, hb6⟩
      simp only [decide_true, Bool.and_self]
      go_wp2_with fail
      go_ret
      exact ⟨rfl, (hbw5.alloc hbw5.size _).trans (hb6.mono (by have := hbw5.size; simp; omega))⟩
set_option maxRecDepth 100000 in
theorem lifted_BitPieces (os : Os) (started : os.Started) (H : Type) (enc : TypeId × Value → H) :
    ReturnsInHanded {} Try.checked os 8 .any (Rows.bitPiecesSpec.pre6 enc Try.prog Try.f8 Rows.bitPiecesRow.domain false) (Rows.bitPiecesSpec.post enc Try.prog Try.f8 false true false false) := by
  refine returnsInHanded_of_change (C := Try.checked) own started (by kernel_rfl) Try.func8
    (ChangeSpec.witness6 (enc := enc) (C := Try.checked) false ⟨#[], #[.agg #[.slice none 0 0, .int .i64 0], .int .u64 0, .int .u8 0, .int .u8 0], []⟩ 8 (by kernel_rfl) (by kernel_rfl) (by kernel_rfl) (by kernel_rfl)) ?_
  intro W base args ds gs before hval0 hW hcnd _
  have hval : ∀ (j : Nat) t v, Try.f8.params[j]? = some t → args[j]? = some v → Value.okWide Try.prog W .any base t v := hval0
  have hW' := hW
  obtain ⟨p, q, hA0, hV, rfl, hfz, hnd⟩ := hW
  have hA : DataW.TrodAll enc Try.prog W 0 (fun _ => true) true Try.f8.params.toList args.toList ds p := hA0
  rw [Try.params8] at hA hval
  obtain ⟨v0, vs0, d0, ds0, p0, q0, hargs, rfl, rfl, h0, r0⟩ := trodAll_cons hA
  obtain ⟨v1, vs1, d1, ds1, p1, q1, rfl, rfl, rfl, h1, r1⟩ := trodAll_cons r0
  obtain ⟨v2, vs2, d2, ds2, p2, q2, rfl, rfl, rfl, h2, r2⟩ := trodAll_cons r1
  obtain ⟨v3, vs3, d3, ds3, p3, q3, rfl, rfl, rfl, h3, r3⟩ := trodAll_cons r2
  obtain ⟨rfl, rfl, rfl⟩ := trodAll_nil r3
  obtain rfl : args = #[v0, v1, v2, v3] := by cases args; simp_all
  obtain ⟨rfl, rfl⟩ := trodVars_none hV
  have k0 := h0
  have lt0 : ∀ x ∈ p0, x.block < W.heap.size := by obtain ⟨m, hm⟩ := k0; exact DataW.trod_lt m _ _ _ hm
  obtain ⟨A0, c0, B0, N0, rfl, rd0, by0, rg0⟩ := open_bits (hval 0 24 v0 rfl rfl) h0
  obtain ⟨a1, rfl, rfl, rfl, w1⟩ := open_int Try.underlying25 (hval 1 25 v1 rfl rfl) h1
  obtain ⟨a2, rfl, rfl, rfl, w2⟩ := open_int Try.underlying5 (hval 2 5 v2 rfl rfl) h2
  obtain ⟨a3, rfl, rfl, rfl, w3⟩ := open_int Try.underlying5 (hval 3 5 v3 rfl rfl) h3
  clear hA0 hval0
  refine (walk_BitPieces W A0 c0 B0 N0 rd0 by0 rg0 a1 (range_u64 w1) a2 (range_u8 w2) a3 (range_u8 w3)).mono fun e W' ⟨he, bel⟩ => ?_
  subst he
  exact ⟨_, rfl, _, _, _, [], _, [], hW', trodAll_mk1 (shut_bool Try.underlying4 _), (trodAll_cons_mk (Below.trod laidOut (by kernel_rfl) (of_decide_eq_true (by kernel_rfl)) k0 bel lt0) (trodAll_cons_mk (shut_int Try.underlying25 w1) (trodAll_cons_mk (shut_int Try.underlying5 w2) (trodAll_cons_mk (shut_int Try.underlying5 w3) trodAll_mk0)))), rfl, bel.frame _, fun h => by cases h⟩

theorem over_BitPieces : Rows.bitPiecesRow.holds Try.pinned (OpenSpec.ofChange Rows.bitPiecesSpec) :=
  OpenClaim.holds_of_wide 8 Try.f8 rfl rfl rfl rfl rfl rfl rfl ⟨rfl, rfl, rfl, rfl, rfl⟩ rfl rfl rfl rfl rfl (by kernel_rfl) Try.func8 (by kernel_rfl)
    (of_decide_eq_true (by kernel_rfl)) (by unfold Func.isWrapper; first | (rw [if_pos (by decide +kernel)]; kernel_rfl) | (rw [if_neg (by decide +kernel)]; exact ⟨rfl, rfl⟩))
    (fun os started H enc _ => lifted_BitPieces os started H enc)

theorem bitPieces_holds : Rows.BitPiecesSaid := over_BitPieces

#print axioms bitPieces_holds
end Go.Proofs.Ytifjanlcfjajpaa
