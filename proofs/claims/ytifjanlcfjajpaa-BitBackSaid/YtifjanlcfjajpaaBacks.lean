/-
  Rows.BitBackSaid is proved: for all bits by value, every number, width, place and length the call returns true, and the bits read as they did. No condition.
-/
import Derived.Test.YtifjanlcfjajpaaBoth
import Derived.Test.YtifjanlcfjajpaaPl5
namespace Go.Proofs.Ytifjanlcfjajpaa
open Go.ChangeShapes Go.WideShapes Go.ChangeAt Go.RowKit
open Pl
set_option linter.unusedVariables false

theorem backBlk {w : World} {t : TypeId} {cs : Array Value} : Blk (w.alloc (.cells cs t)) w.heap.size t cs := Blk.new w t cs

set_option maxRecDepth 100000 in
set_option maxHeartbeats 4000000 in
theorem walk_BitBack (w : World) (A : Option Addr) (c : Nat) (B : List Int) (N : Int) (hr : Rd w A B) (hB : Byts B) (hN : -9223372036854775808 ≤ N ∧ N ≤ 9223372036854775807) (v : Int) (hv : U64 v) (wd : Int) (hwd : 0 ≤ wd ∧ wd < 256) (pl : Int) (hpl : 0 ≤ pl ∧ pl < 256) (kk : Int) (hkk : 0 ≤ kk ∧ kk < 256) :
    Calls Try.prog 7 #[.agg #[.slice A B.length c, .int .i64 N], .int .u64 v, .int .u8 wd, .int .u8 pl, .int .u8 kk] w fun e w' => e = .returned (.bool true) ∧ Below w.heap.size w w' := by
  by_cases hbig : (1500 : Int) < (B.length : Int)
  · have hd' : decide (1500 < B.length) = true := by simp; omega
    clear hN hB hr
    go_enter Try.func7, Try.ntmps7
    go_wp2_with fail
    refine (known_any _).mono ?_
    rintro e w1 ⟨rfl, hb1⟩
    go_wp2_with fail
    go_ret
    exact ⟨rfl, ((Below.refl _ _).alloc (Nat.le_refl _) _).trans (hb1.mono (by simp))⟩
  · have hd' : decide (1500 < B.length) = false := by simp; omega
    obtain ⟨u, rfl⟩ := Int.eq_ofNat_of_zero_le hv.1
    obtain ⟨W, hW⟩ : ∃ W : Nat, wd % 65 = (W : Int) := ⟨(wd % 65).toNat, by omega⟩
    obtain ⟨L, hL⟩ : ∃ L, bitsOf B (someN B N) = L := ⟨_, rfl⟩
    obtain ⟨m, hm⟩ : ∃ m, L.length = m := ⟨_, rfl⟩
    have hm12 : (m : Int) ≤ 12000 := by rw [← hm, ← hL, bitsOf_length]; unfold someN; omega
    have hSM := fun wx (h : Rd wx A B) => some_any A c B N wx h hB hN (by omega)
    rw [hL] at hSM
    obtain ⟨n, hn⟩ : ∃ n, B.length = n := ⟨_, rfl⟩
    rw [hn] at hd' hSM
    have hl : n ≤ 1500 := by omega
    have HSM := Lib.hid hSM
    have HM := Lib.hid hm
    have hW64 : W ≤ 64 := by omega
    have hmod0 := Int.emod_nonneg pl (b := (m : Int) + 1) (by omega)
    have hmod1 := Int.emod_lt_of_pos pl (b := (m : Int) + 1) (by omega)
    obtain ⟨F, hF⟩ : ∃ F : Nat, pl % ((m : Int) + 1) = (F : Int) := ⟨(pl % ((m : Int) + 1)).toNat, by omega⟩
    have hFm : (F : Int) ≤ m := by omega
    clear hmod0 hmod1
    obtain ⟨K, hK⟩ : ∃ K : Nat, kk % 65 = (K : Int) := ⟨(kk % 65).toNat, by omega⟩
    have hK64 : K ≤ 64 := by omega
    rw [hn]
    have hwd0 := hwd.1
    have hpl0 := hpl.1
    have hkk0 := hkk.1
    have hwd1 : wd ≤ 255 := by omega
    have hpl1 : pl ≤ 255 := by omega
    have hkk1 : kk ≤ 255 := by omega
    clear hB hN hbig hSM hL hm hn hwd hpl hkk
    go_enter Try.func7, Try.ntmps7
    go_wp2_with fail
    refine (known_any _).mono ?_
    rintro e w1 ⟨rfl, hb1⟩
    have hbw1 : Below w.heap.size w w1 := ((Below.refl _ _).alloc (Nat.le_refl _) _).trans (hb1.mono (by simp))
    have HT5 := Lib.hid (backBlk.below hb1 (by simp) : Blk w1 w.heap.size 24 #[.slice A n c, .int .i64 N])
    have t50 := HT5.out.cell 0
    have t51 := HT5.out.cell 1
    clear hb1
    go_wp2_with fail
    refine (HSM.out _ (hr.below hbw1)).mono ?_
    rintro e w2 ⟨A2, c2, B2, rfl, hp2, own2, hb2⟩
    rw [HM.out]
    have HP2 := Lib.hid hp2
    have hB2 : (B2.length : Int) ≤ 2000 := by have := hp2.len; have := HM.out; omega
    have hbw2 : Below w.heap.size w w2 := hbw1.trans (hb2.mono hbw1.size)
    have hR2 := Rd.of_own own2
    clear t50 t51 HT5 own2 hb2 hp2
    go_wp2_with fail
    have PUT := put_sound A2 c2 B2 L u W (w2.alloc (.cells #[.slice A2 B2.length c2, .int .i64 (m : Int)] 24)) (hR2.alloc _) HP2.out (by omega) hv hW64
    rw [HM.out] at PUT
    refine PUT.mono ?_
    rintro e w3 ⟨A3, c3, B3, rfl, hp3, own3, hb3⟩
    have hl3 : (L ++ nbits u W).length = m + W := by rw [List.length_append, nbits_length, HM.out]
    rw [hl3]
    have HT11 := Lib.hid ((backBlk (w := w2) (t := 24) (cs := #[.slice A2 B2.length c2, .int .i64 (m : Int)])).below hb3 (by simp))
    have hz3 := HT11.out.lt
    have t110 := (HT11.out.alloc (.cells #[.slice A3 B3.length c3, .int .i64 ((m + W : Nat) : Int)] 24)).cell 0
    have t111 := (HT11.out.alloc (.cells #[.slice A3 B3.length c3, .int .i64 ((m + W : Nat) : Int)] 24)).cell 1
    have hbw3 : Below w.heap.size w w3 := (hbw2.alloc hbw2.size _).trans (hb3.mono (by have := hbw2.size; simp; omega))
    have hR2b := (hR2.alloc (.cells #[.slice A2 B2.length c2, .int .i64 (m : Int)] 24)).below hb3
    have hR3 := Rd.of_own own3
    have HP3 := Lib.hid hp3
    have HL3 := Lib.hid hl3
    have hB3 : (B3.length : Int) ≤ 3000 := by have := hp3.len; rw [hl3] at this; omega
    clear PUT own3 hb3 hp3 hl3
    have GA := fun wx (h : Rd wx A3 B3) => by
      have hv1 : val (sub (L ++ nbits u W) m W) = u % 2 ^ W := by rw [← HM.out]; exact val_back L u W
      have := get_sound A3 c3 B3 (L ++ nbits u W) m W wx h HP3.out (by omega) hW64 (by rw [HL3.out]; exact Nat.le_refl _)
      rw [HL3.out, hv1, Int.natCast_add] at this
      exact this
    have HGA := Lib.hid GA
    clear GA
    rw [Int.natCast_add] at t110 t111 ⊢
    go_wp2_with fail
    refine (HGA.out _ (hR3.alloc _)).mono ?_
    rintro e w4 ⟨rfl, hb4⟩
    have HT13 := Lib.hid ((backBlk (w := w3) (t := 24) (cs := #[.slice A3 B3.length c3, .int .i64 ((m : Int) + (W : Int))])).below hb4 (by simp))
    have HT11b := Lib.hid ((HT11.out.alloc (.cells #[.slice A3 B3.length c3, .int .i64 ((m : Int) + (W : Int))] 24)).below hb4 (by simp; omega))
    have s0 := HT13.out.cell 0
    have s1 := HT13.out.cell 1
    have s2 := HT11b.out.cell 0
    have s3 := HT11b.out.cell 1
    have hbw4 : Below w.heap.size w w4 := (hbw3.alloc hbw3.size _).trans (hb4.mono (by have := hbw3.size; simp; omega))
    have hR4 := (hR2b.alloc (.cells #[.slice A3 B3.length c3, .int .i64 ((m : Int) + (W : Int))] 24)).below hb4
    have hR4z := (hR3.alloc (.cells #[.slice A3 B3.length c3, .int .i64 ((m : Int) + (W : Int))] 24)).below hb4
    have hz4 := HT13.out.lt
    have hz5 := HT11b.out.lt
    clear hb4 t110 t111 hR2b hR3 HT11 hR2
    have GB := fun (Q : Nat) (h1 : F + Q ≤ m) (h2 : Q ≤ 64) wx (h : Rd wx A2 B2) => by
      have := get_sound A2 c2 B2 L F Q wx h HP2.out (by omega) h2 (by rw [HM.out]; exact h1)
      rw [HM.out] at this
      exact this
    have HGB := Lib.hid GB
    clear GB
    have GC := fun (Q : Nat) (h1 : F + Q ≤ m) (h2 : Q ≤ 64) wx (h : Rd wx A3 B3) => by
      have := get_sound A3 c3 B3 (L ++ nbits u W) F Q wx h HP3.out (by omega) h2 (by rw [HL3.out]; omega)
      rw [HL3.out, Int.natCast_add, sub_append_left (by rw [HM.out]; exact h1)] at this
      exact this
    have HGC := Lib.hid GC
    clear GC
    have GS := fun wx (h : Rd wx A3 B3) => by
      have := sound_yes (c := c3) HP3.out (by omega) wx h
      rw [HL3.out, Int.natCast_add] at this
      exact this
    have HGS := Lib.hid GS
    clear GS
    by_cases h64 : W < 64
    · have hd64 : decide (W < 64) = true := by simp; omega
      have hPlt : (2 : Int) ^ W < 18446744073709551616 := by
        have : (2 : Nat) ^ W < 2 ^ 64 := Nat.pow_lt_pow_right (by omega) h64
        have h2 : ((2 ^ W : Nat) : Int) = (2 : Int) ^ W := by simp
        omega
      have hP0 : 0 < (2 : Int) ^ W := Int.pow_pos (by omega)
      have hPW : IntKind.u64.wrap ((2 : Int) ^ W) = 2 ^ W := by
        have := Int.emod_eq_of_lt (Int.le_of_lt hP0) hPlt
        simpa [IntKind.wrap, IntKind.bits, IntKind.signed] using this
      have hPn : ¬ (2 : Int) ^ W = 0 := by omega
      clear hPlt hP0
      have hd0 : decide ((2 : Int) ^ W = 0) = false := decide_eq_false hPn
      by_cases hKF : (K : Int) ≤ (m : Int) - (F : Int)
      · obtain ⟨Q, hQ⟩ : ∃ Q : Nat, Q = K := ⟨_, rfl⟩
        subst hQ
        go_wp2_with fail
        refine (HGB.out Q (by omega) (by omega) _ hR4).mono ?_
        rintro e w5 ⟨rfl, hb5⟩
        obtain ⟨V, hV⟩ : ∃ V : Nat, val (sub L F Q) = V := ⟨_, rfl⟩
        have hc := HGC.out Q (by omega) (by omega)
        rw [hV] at hc
        rw [hV]
        have HC := Lib.hid hc
        clear hc hV
        have hR5 := hR4z.below hb5
        have HT13c := Lib.hid (HT13.out.below hb5 (by assumption))
        have HT11c := Lib.hid (HT11b.out.below hb5 (by assumption))
        have hbw5 := hbw4.trans (hb5.mono hbw4.size)
        clear s0 s1 s2 s3 HT13 HT11b hR4 hR4z
        have s0 := HT13c.out.cell 0
        have s1 := HT13c.out.cell 1
        have s2 := HT11c.out.cell 0
        have s3 := HT11c.out.cell 1
        clear hb5
        go_wp2_with fail
        refine (HC.out _ hR5).mono ?_
        rintro e w6 ⟨rfl, hb6⟩
        have hR6 := hR5.below hb6
        have HT13d := Lib.hid (HT13c.out.below hb6 HT13c.out.lt)
        have HT11d := Lib.hid (HT11c.out.below hb6 HT11c.out.lt)
        have hbw6 := hbw5.trans (hb6.mono hbw5.size)
        clear s0 s1 s2 s3 HT13c HT11c hR5 hb6
        have s0 := HT13d.out.cell 0
        have s1 := HT13d.out.cell 1
        have s2 := HT11d.out.cell 0
        have s3 := HT11d.out.cell 1
        go_wp2_with fail
        refine (HGS.out _ hR6).mono ?_
        rintro e w7 ⟨rfl, hb7⟩
        go_wp2_with fail
        go_ret
        exact ⟨rfl, hbw6.trans (hb7.mono hbw6.size)⟩
      · obtain ⟨Q, hQ⟩ : ∃ Q : Nat, (m : Int) - (F : Int) = (Q : Int) := ⟨((m : Int) - (F : Int)).toNat, by omega⟩
        have hdKF : decide ((K : Int) ≤ (Q : Int)) = false := by simp; omega
        go_wp2_with fail
        refine (HGB.out Q (by omega) (by omega) _ hR4).mono ?_
        rintro e w5 ⟨rfl, hb5⟩
        obtain ⟨V, hV⟩ : ∃ V : Nat, val (sub L F Q) = V := ⟨_, rfl⟩
        have hc := HGC.out Q (by omega) (by omega)
        rw [hV] at hc
        rw [hV]
        have HC := Lib.hid hc
        clear hc hV
        have hR5 := hR4z.below hb5
        have HT13c := Lib.hid (HT13.out.below hb5 (by assumption))
        have HT11c := Lib.hid (HT11b.out.below hb5 (by assumption))
        have hbw5 := hbw4.trans (hb5.mono hbw4.size)
        clear s0 s1 s2 s3 HT13 HT11b hR4 hR4z
        have s0 := HT13c.out.cell 0
        have s1 := HT13c.out.cell 1
        have s2 := HT11c.out.cell 0
        have s3 := HT11c.out.cell 1
        clear hb5
        go_wp2_with fail
        refine (HC.out _ hR5).mono ?_
        rintro e w6 ⟨rfl, hb6⟩
        have hR6 := hR5.below hb6
        have HT13d := Lib.hid (HT13c.out.below hb6 HT13c.out.lt)
        have HT11d := Lib.hid (HT11c.out.below hb6 HT11c.out.lt)
        have hbw6 := hbw5.trans (hb6.mono hbw5.size)
        clear s0 s1 s2 s3 HT13c HT11c hR5 hb6
        have s0 := HT13d.out.cell 0
        have s1 := HT13d.out.cell 1
        have s2 := HT11d.out.cell 0
        have s3 := HT11d.out.cell 1
        go_wp2_with fail
        refine (HGS.out _ hR6).mono ?_
        rintro e w7 ⟨rfl, hb7⟩
        go_wp2_with fail
        go_ret
        exact ⟨rfl, hbw6.trans (hb7.mono hbw6.size)⟩
    · have hd64 : decide (W < 64) = false := by simp; omega
      have hWe : W = 64 := by omega
      have hmodu : u % 2 ^ W = u := by rw [hWe]; exact Nat.mod_eq_of_lt (by have := hv; simp only [U64] at this; omega)
      rw [hmodu]
      clear hmodu hWe
      by_cases hKF : (K : Int) ≤ (m : Int) - (F : Int)
      · obtain ⟨Q, hQ⟩ : ∃ Q : Nat, Q = K := ⟨_, rfl⟩
        subst hQ
        go_wp2_with fail
        refine (HGB.out Q (by omega) (by omega) _ hR4).mono ?_
        rintro e w5 ⟨rfl, hb5⟩
        obtain ⟨V, hV⟩ : ∃ V : Nat, val (sub L F Q) = V := ⟨_, rfl⟩
        have hc := HGC.out Q (by omega) (by omega)
        rw [hV] at hc
        rw [hV]
        have HC := Lib.hid hc
        clear hc hV
        have hR5 := hR4z.below hb5
        have HT13c := Lib.hid (HT13.out.below hb5 (by assumption))
        have HT11c := Lib.hid (HT11b.out.below hb5 (by assumption))
        have hbw5 := hbw4.trans (hb5.mono hbw4.size)
        clear s0 s1 s2 s3 HT13 HT11b hR4 hR4z
        have s0 := HT13c.out.cell 0
        have s1 := HT13c.out.cell 1
        have s2 := HT11c.out.cell 0
        have s3 := HT11c.out.cell 1
        clear hb5
        go_wp2_with fail
        refine (HC.out _ hR5).mono ?_
        rintro e w6 ⟨rfl, hb6⟩
        have hR6 := hR5.below hb6
        have HT13d := Lib.hid (HT13c.out.below hb6 HT13c.out.lt)
        have HT11d := Lib.hid (HT11c.out.below hb6 HT11c.out.lt)
        have hbw6 := hbw5.trans (hb6.mono hbw5.size)
        clear s0 s1 s2 s3 HT13c HT11c hR5 hb6
        have s0 := HT13d.out.cell 0
        have s1 := HT13d.out.cell 1
        have s2 := HT11d.out.cell 0
        have s3 := HT11d.out.cell 1
        go_wp2_with fail
        refine (HGS.out _ hR6).mono ?_
        rintro e w7 ⟨rfl, hb7⟩
        go_wp2_with fail
        go_ret
        exact ⟨rfl, hbw6.trans (hb7.mono hbw6.size)⟩
      · obtain ⟨Q, hQ⟩ : ∃ Q : Nat, (m : Int) - (F : Int) = (Q : Int) := ⟨((m : Int) - (F : Int)).toNat, by omega⟩
        have hdKF : decide ((K : Int) ≤ (Q : Int)) = false := by simp; omega
        go_wp2_with fail
        refine (HGB.out Q (by omega) (by omega) _ hR4).mono ?_
        rintro e w5 ⟨rfl, hb5⟩
        obtain ⟨V, hV⟩ : ∃ V : Nat, val (sub L F Q) = V := ⟨_, rfl⟩
        have hc := HGC.out Q (by omega) (by omega)
        rw [hV] at hc
        rw [hV]
        have HC := Lib.hid hc
        clear hc hV
        have hR5 := hR4z.below hb5
        have HT13c := Lib.hid (HT13.out.below hb5 (by assumption))
        have HT11c := Lib.hid (HT11b.out.below hb5 (by assumption))
        have hbw5 := hbw4.trans (hb5.mono hbw4.size)
        clear s0 s1 s2 s3 HT13 HT11b hR4 hR4z
        have s0 := HT13c.out.cell 0
        have s1 := HT13c.out.cell 1
        have s2 := HT11c.out.cell 0
        have s3 := HT11c.out.cell 1
        clear hb5
        go_wp2_with fail
        refine (HC.out _ hR5).mono ?_
        rintro e w6 ⟨rfl, hb6⟩
        have hR6 := hR5.below hb6
        have HT13d := Lib.hid (HT13c.out.below hb6 HT13c.out.lt)
        have HT11d := Lib.hid (HT11c.out.below hb6 HT11c.out.lt)
        have hbw6 := hbw5.trans (hb6.mono hbw5.size)
        clear s0 s1 s2 s3 HT13c HT11c hR5 hb6
        have s0 := HT13d.out.cell 0
        have s1 := HT13d.out.cell 1
        have s2 := HT11d.out.cell 0
        have s3 := HT11d.out.cell 1
        go_wp2_with fail
        refine (HGS.out _ hR6).mono ?_
        rintro e w7 ⟨rfl, hb7⟩
        go_wp2_with fail
        go_ret
        exact ⟨rfl, hbw6.trans (hb7.mono hbw6.size)⟩
set_option maxRecDepth 100000 in
theorem lifted_BitBack (os : Os) (started : os.Started) (H : Type) (enc : TypeId × Value → H) :
    ReturnsInHanded {} Try.checked os 7 .any (Rows.bitBackSpec.pre6 enc Try.prog Try.f7 Rows.bitBackRow.domain false) (Rows.bitBackSpec.post enc Try.prog Try.f7 false true false false) := by
  refine returnsInHanded_of_change (C := Try.checked) own started (by kernel_rfl) Try.func7
    (ChangeSpec.witness6 (enc := enc) (C := Try.checked) false ⟨#[], #[.agg #[.slice none 0 0, .int .i64 0], .int .u64 0, .int .u8 0, .int .u8 0, .int .u8 0], []⟩ 8 (by kernel_rfl) (by kernel_rfl) (by kernel_rfl) (by kernel_rfl)) ?_
  intro W base args ds gs before hval0 hW hcnd _
  have hval : ∀ (j : Nat) t v, Try.f7.params[j]? = some t → args[j]? = some v → Value.okWide Try.prog W .any base t v := hval0
  have hW' := hW
  obtain ⟨p, q, hA0, hV, rfl, hfz, hnd⟩ := hW
  have hA : DataW.TrodAll enc Try.prog W 0 (fun _ => true) true Try.f7.params.toList args.toList ds p := hA0
  rw [Try.params7] at hA hval
  obtain ⟨v0, vs0, d0, ds0, p0, q0, hargs, rfl, rfl, h0, r0⟩ := trodAll_cons hA
  obtain ⟨v1, vs1, d1, ds1, p1, q1, rfl, rfl, rfl, h1, r1⟩ := trodAll_cons r0
  obtain ⟨v2, vs2, d2, ds2, p2, q2, rfl, rfl, rfl, h2, r2⟩ := trodAll_cons r1
  obtain ⟨v3, vs3, d3, ds3, p3, q3, rfl, rfl, rfl, h3, r3⟩ := trodAll_cons r2
  obtain ⟨v4, vs4, d4, ds4, p4, q4, rfl, rfl, rfl, h4, r4⟩ := trodAll_cons r3
  obtain ⟨rfl, rfl, rfl⟩ := trodAll_nil r4
  obtain rfl : args = #[v0, v1, v2, v3, v4] := by cases args; simp_all
  obtain ⟨rfl, rfl⟩ := trodVars_none hV
  have k0 := h0
  have lt0 : ∀ x ∈ p0, x.block < W.heap.size := by obtain ⟨m, hm⟩ := k0; exact DataW.trod_lt m _ _ _ hm
  obtain ⟨A0, c0, B0, N0, rfl, rd0, by0, rg0⟩ := open_bits (hval 0 24 v0 rfl rfl) h0
  obtain ⟨a1, rfl, rfl, rfl, w1⟩ := open_int Try.underlying25 (hval 1 25 v1 rfl rfl) h1
  obtain ⟨a2, rfl, rfl, rfl, w2⟩ := open_int Try.underlying5 (hval 2 5 v2 rfl rfl) h2
  obtain ⟨a3, rfl, rfl, rfl, w3⟩ := open_int Try.underlying5 (hval 3 5 v3 rfl rfl) h3
  obtain ⟨a4, rfl, rfl, rfl, w4⟩ := open_int Try.underlying5 (hval 4 5 v4 rfl rfl) h4
  clear hA0 hval0
  refine (walk_BitBack W A0 c0 B0 N0 rd0 by0 rg0 a1 (range_u64 w1) a2 (range_u8 w2) a3 (range_u8 w3) a4 (range_u8 w4)).mono fun e W' ⟨he, bel⟩ => ?_
  subst he
  exact ⟨_, rfl, _, _, _, [], _, [], hW', trodAll_mk1 (shut_bool Try.underlying4 _), (trodAll_cons_mk (Below.trod laidOut (by kernel_rfl) (of_decide_eq_true (by kernel_rfl)) k0 bel lt0) (trodAll_cons_mk (shut_int Try.underlying25 w1) (trodAll_cons_mk (shut_int Try.underlying5 w2) (trodAll_cons_mk (shut_int Try.underlying5 w3) (trodAll_cons_mk (shut_int Try.underlying5 w4) trodAll_mk0))))), rfl, bel.frame _, fun h => by cases h⟩

theorem over_BitBack : Rows.bitBackRow.holds Try.pinned (OpenSpec.ofChange Rows.bitBackSpec) :=
  OpenClaim.holds_of_wide 7 Try.f7 rfl rfl rfl rfl rfl rfl rfl ⟨rfl, rfl, rfl, rfl, rfl⟩ rfl rfl rfl rfl rfl (by kernel_rfl) Try.func7 (by kernel_rfl)
    (of_decide_eq_true (by kernel_rfl)) (by unfold Func.isWrapper; first | (rw [if_pos (by decide +kernel)]; kernel_rfl) | (rw [if_neg (by decide +kernel)]; exact ⟨rfl, rfl⟩))
    (fun os started H enc _ => lifted_BitBack os started H enc)

theorem bitBack_holds : Rows.BitBackSaid := over_BitBack

#print axioms bitBack_holds
end Go.Proofs.Ytifjanlcfjajpaa
