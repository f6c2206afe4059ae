/-
  Rows.ZigOnlySaid is proved: what is got is put just so; a number that is nearer to nought takes no more bits. No condition.
-/
import Derived.Test.YteemncpmcfflmaaZgOpen
namespace Go.Proofs.Yteemncpmcfflmaa
open Go.ChangeShapes Go.WideShapes Go.ChangeAt Go.RowKit
open Pl
set_option linter.unusedVariables false

theorem zgN_u64 (L : List Bool) (p : Nat) : U64 (zgN L p : Int) := by
  unfold zgN
  have h1 := val_lt (sub L (whQ L p) (wid (whK L p)))
  have h5 := (row_ok (whK_le L p)).2.2
  have h2 : (sub L (whQ L p) (wid (whK L p))).length ≤ wid (whK L p) := by simp only [sub]; rw [List.length_take]; omega
  have h3 : 2 ^ (sub L (whQ L p) (wid (whK L p))).length ≤ 2 ^ 64 := Nat.pow_le_pow_right (by decide) (by omega)
  have h4 : (2 : Nat) ^ 64 = 18446744073709551616 := by decide
  simp only [U64]; omega

theorem put_nil (v : Int) (hv : I64 v) (wx : World) : Calls Try.prog 16 #[.agg #[.slice none 0 0, .int .i64 0], .int .i64 v] wx (RetBits 5 .u16 (code v) wx) := by
  have := zput_sound none 0 [] [] v wx (Rd.nil wx none) packs_nil (by simp) hv
  rw [List.nil_append] at this
  exact this

/-- What a place holds: no number; or one that is put so, and cut out so. -/
theorem only_get (B : List Int) (N p : Int) (hB : Byts B) (hN : -9223372036854775808 ≤ N ∧ N ≤ 9223372036854775807) (hp : -9223372036854775808 ≤ p ∧ p ≤ 9223372036854775807) (hl : (B.length : Int) ≤ 500) :
    (∃ x, (x = 10 ∨ x = 11) ∧ (∀ wx A c, Rd wx A B → Calls Try.prog 18 #[.agg #[.slice A B.length c, .int .i64 N], .int .i64 p] wx (RetZ .u16 0 0 x wx))) ∨
    (∃ u q, I64 u ∧ (∀ wx A c, Rd wx A B → Calls Try.prog 18 #[.agg #[.slice A B.length c, .int .i64 N], .int .i64 p] wx (RetZ .u16 u q 0 wx)) ∧
      (∀ wx A c, Rd wx A B → Calls Try.prog 20 #[.agg #[.slice A B.length c, .int .i64 N], .int .i64 p, .int .i64 q] wx (RetBits 5 .i64 (code u) wx))) := by
  by_cases hs : Snd B N
  · have hpk := packs_of_snd hB hs
    obtain ⟨L, hL⟩ : ∃ L, bitsOf B N.toNat = L := ⟨_, rfl⟩
    have hLN : N = (L.length : Int) := by rw [← hL, bitsOf_length]; have := hs.1; omega
    rw [hL] at hpk
    subst hLN
    by_cases hpf : p < 0 ∨ (L.length : Int) < p
    · exact .inl ⟨10, .inl rfl, fun wx A c h => zget_err A c B _ p 10 wx h (.inl rfl) (fun wy hy => which_err A c B _ p 10 wy hy (.inl rfl) (fun wz hz => get_far A c B L p 1 wz hz hpk (by omega) (by decide) hp.2 (by omega)))⟩
    · obtain ⟨q, rfl⟩ := Int.eq_ofNat_of_zero_le (a := p) (by omega)
      have h1 := fun wx A c h => zget_at A c B L q wx h hpk (by omega) (by omega)
      by_cases hsh : Short L q
      · exact .inl ⟨10, .inl rfl, fun wx A c h => (h1 wx A c h).mono fun _ _ hh => hh.1 hsh⟩
      · by_cases hrw : row (zgN L q) = whK L q
        · obtain ⟨r1, r2, r3⟩ := read_code (by omega) hsh hrw
          refine .inr ⟨_, _, unfold_i64 (zgN_u64 L q), fun wx A c h => (h1 wx A c h).mono fun _ _ hh => hh.2.2 hsh hrw, fun wx A c h => ?_⟩
          have := rcut_sound A c B L q (whQ L q + wid (whK L q)) wx h hpk (by omega) r2 r1
          rw [r3] at this
          exact this
        · exact .inl ⟨11, .inr rfl, fun wx A c h => (h1 wx A c h).mono fun _ _ hh => hh.2.1 hsh hrw⟩
  · exact .inl ⟨11, .inr rfl, fun wx A c h => zget_err A c B _ p 11 wx h (.inr rfl) (fun wy hy => which_err A c B _ p 11 wy hy (.inr rfl) (fun wz hz => get_unsound A c B N p 1 wz hz hB hN (by omega) hs))⟩

set_option maxRecDepth 100000 in
set_option maxHeartbeats 2000000 in
theorem walk_ZigOnly (w : World) (A : Option Addr) (c : Nat) (B : List Int) (N : Int) (hr : Rd w A B) (hB : Byts B) (hN : -9223372036854775808 ≤ N ∧ N ≤ 9223372036854775807) (p : Int) (hp : -9223372036854775808 ≤ p ∧ p ≤ 9223372036854775807) (v : Int) (hv : -9223372036854775808 ≤ v ∧ v ≤ 9223372036854775807) :
    Calls Try.prog 8 #[.agg #[.slice A B.length c, .int .i64 N], .int .i64 p, .int .i64 v] w fun e w' => e = .returned (.bool true) ∧ Below w.heap.size w w' := by
  by_cases hbig : (500 : Int) < (B.length : Int)
  · have hd' : decide (500 < B.length) = true := by simp; omega
    clear hN hB hr hp hv
    go_enter Try.func8, Try.ntmps8
    go_wp2_with fail
    refine (known_any _).mono ?_
    rintro e w1 ⟨rfl, hb1⟩
    go_wp2_with fail
    go_ret
    exact ⟨rfl, ((Below.refl _ _).alloc (Nat.le_refl _) _).trans (hb1.mono (by simp))⟩
  have hd' : decide (500 < B.length) = false := by simp; omega
  have HALL := Lib.hid (only_get B N p hB hN hp (by omega))
  have HPA := Lib.hid (put_nil v hv)
  have hv2 : I64 (v.tdiv 2) := by
    simp only [I64]
    have h0 : v.tdiv 2 = if 0 ≤ v then v / 2 else -((-v) / 2) := by
      split
      · exact Int.tdiv_eq_ediv_of_nonneg (by assumption)
      · have : v = -(-v) := by omega
        rw [this, Int.neg_tdiv, Int.tdiv_eq_ediv_of_nonneg (by omega)]; omega
    rw [h0]; split <;> omega
  have HPB := Lib.hid (put_nil (v.tdiv 2) hv2)
  have hca := code_le v
  have hcp := code_pos v
  have hch := code_half v
  have hl : B.length ≤ 500 := by omega
  obtain ⟨n, hn⟩ : ∃ n, B.length = n := ⟨_, rfl⟩
  rw [hn] at hd' hl HALL ⊢
  have HP2 := Lib.hid hp
  have HQ : Hid (IntKind.i64.wrap (v.tdiv 2) = v.tdiv 2) := Lib.hid (IntWalk.i64_in _ (by simp only [I64] at hv2; omega))
  obtain ⟨LA, hLA⟩ : ∃ L, code v = L := ⟨_, rfl⟩
  obtain ⟨LB, hLB⟩ : ∃ L, code (v.tdiv 2) = L := ⟨_, rfl⟩
  rw [hLA] at HPA hca hcp hch
  rw [hLB] at HPB hch
  obtain ⟨na, hna⟩ : ∃ n, LA.length = n := ⟨_, rfl⟩
  obtain ⟨nb, hnb⟩ : ∃ n, LB.length = n := ⟨_, rfl⟩
  rw [hna] at hca hcp hch
  rw [hnb] at hch
  have HNA := Lib.hid hna
  have HNB := Lib.hid hnb
  have i1 : (na : Int) ≤ 69 := by omega
  have i2 : (1 : Int) ≤ (na : Int) := by omega
  have i3 : (nb : Int) ≤ (na : Int) := by omega
  have d1 : decide (na ≤ 69) = true := by simp; omega
  have d2 : decide (1 ≤ na) = true := by simp; omega
  have d3 : decide (nb ≤ na) = true := by simp; omega
  have hvlo := hv.1
  have hvhi := hv.2
  clear hB hN hp hbig hn hLA hLB hna hnb hca hcp hch hv hv2
  rcases HALL.out with ⟨x, hx, hG⟩ | ⟨u, q, hu, hG, hC⟩
  · have HG := Lib.hid hG
    clear hG HALL
    go_enter Try.func8, Try.ntmps8
    go_wp2_with fail
    refine (known_any _).mono ?_
    rintro e w1 ⟨rfl, hb1⟩
    have hbw1 : Below w.heap.size w w1 := ((Below.refl _ _).alloc (Nat.le_refl _) _).trans (hb1.mono (by simp))
    have HX : Hid (Blk w1 w.heap.size 27 #[.slice A n c, .int .i64 N]) := Lib.hid ((Blk.new w _ _).below hb1 (by simp))
    clear hb1
    have x0 := HX.out.cell 0
    have x1 := HX.out.cell 1
    go_wp2_with fail
    refine (HG.out _ _ _ (hr.below hbw1)).mono ?_
    rintro e w2 ⟨rfl, hb2⟩
    have hbw2 := hbw1.trans (hb2.mono hbw1.size)
    clear hb2 x0 x1 HX HG
    have hxn : (x == 0) = false := by rcases hx with rfl | rfl <;> rfl
    go_wp2_with fail
    refine (HPA.out _).mono ?_
    rintro e w5 ⟨A5, c5, B5, rfl, hp5, own5, hb5⟩
    rw [HNA.out]
    obtain ⟨b5, hl5⟩ : ∃ n, B5.length = n := ⟨_, rfl⟩
    rw [hl5]
    have HY := Lib.hid (Blk.new w5 27 #[.slice A5 b5 c5, .int .i64 (na : Int)])
    have hbz5 := (hbw2.trans (hb5.mono hbw2.size)).alloc (hbw2.trans (hb5.mono hbw2.size)).size (.cells #[.slice A5 b5 c5, .int .i64 (na : Int)] 27)
    clear hp5 own5 hb5 hl5
    go_wp2_with fail
    first | rw [HQ.out] | skip
    refine (HPB.out _).mono ?_
    rintro e w6 ⟨A6, c6, B6, rfl, hp6, own6, hb6⟩
    rw [HNB.out]
    obtain ⟨b6, hl6⟩ : ∃ n, B6.length = n := ⟨_, rfl⟩
    rw [hl6]
    have y1 := ((HY.out.below hb6 HY.out.lt).alloc (.cells #[.slice A6 b6 c6, .int .i64 (nb : Int)] 27)).cell 1
    have HZ := Lib.hid (Blk.new w6 27 #[.slice A6 b6 c6, .int .i64 (nb : Int)])
    have z1 := HZ.out.cell 1
    have hbz6 := (hbz5.trans (hb6.mono hbz5.size)).alloc (hbz5.trans (hb6.mono hbz5.size)).size (.cells #[.slice A6 b6 c6, .int .i64 (nb : Int)] 27)
    clear hp6 own6 hb6 hl6
    go_wp2_with fail
    go_ret
    exact ⟨rfl, hbz6⟩
  · have HG := Lib.hid hG
    have HC := Lib.hid hC
    have HPU := Lib.hid (put_nil u hu)
    obtain ⟨LU, hLU⟩ : ∃ L, code u = L := ⟨_, rfl⟩
    rw [hLU] at HC HPU
    clear hG hC HALL hLU hu
    go_enter Try.func8, Try.ntmps8
    go_wp2_with fail
    refine (known_any _).mono ?_
    rintro e w1 ⟨rfl, hb1⟩
    have hbw1 : Below w.heap.size w w1 := ((Below.refl _ _).alloc (Nat.le_refl _) _).trans (hb1.mono (by simp))
    have HX : Hid (Blk w1 w.heap.size 27 #[.slice A n c, .int .i64 N]) := Lib.hid ((Blk.new w _ _).below hb1 (by simp))
    clear hb1
    have x0 := HX.out.cell 0
    have x1 := HX.out.cell 1
    go_wp2_with fail
    refine (HG.out _ _ _ (hr.below hbw1)).mono ?_
    rintro e w2 ⟨rfl, hb2⟩
    have hbw2 := hbw1.trans (hb2.mono hbw1.size)
    replace HX := Lib.hid (HX.out.below hb2 HX.out.lt)
    clear hb2 x0 x1 HG
    go_wp2_with fail
    refine (HPU.out _).mono ?_
    rintro e w3 ⟨A3, c3, B3, rfl, hp3, own3, hb3⟩
    obtain ⟨lu, hlu⟩ : ∃ n, LU.length = n := ⟨_, rfl⟩
    have HLU := Lib.hid hlu
    have hr3 := (Rd.of_own own3).alloc (.cells #[.slice A3 B3.length c3, .int .i64 (lu : Int)] 27)
    have HP3 := Lib.hid hp3
    have SAME := fun A4 c4 B4 (hp4 : Packs B4 LU) wx (k3 : Rd wx A3 B3) (k4 : Rd wx A4 B4) => same_packs (c1 := c3) (c2 := c4) hp3 hp4 hlu hlu true (by simp) wx k3 k4
    obtain ⟨b3, hl3⟩ : ∃ n, B3.length = n := ⟨_, rfl⟩
    rw [hl3] at hr3 SAME
    rw [hlu, hl3]
    have HSAME := Lib.hid SAME
    have HY3 := Lib.hid (Blk.new w3 27 #[.slice A3 b3 c3, .int .i64 (lu : Int)])
    have hbz3 := (hbw2.trans (hb3.mono hbw2.size)).alloc (hbw2.trans (hb3.mono hbw2.size)).size (.cells #[.slice A3 b3 c3, .int .i64 (lu : Int)] 27)
    replace HX := Lib.hid ((HX.out.below hb3 HX.out.lt).alloc (.cells #[.slice A3 b3 c3, .int .i64 (lu : Int)] 27))
    clear hp3 own3 hb3 hl3 hlu SAME HPU
    have x0 := HX.out.cell 0
    have x1 := HX.out.cell 1
    go_wp2_with fail
    refine (HC.out _ _ _ (hr.below hbz3)).mono ?_
    rintro e w4 ⟨A4, c4, B4, rfl, hp4, own4, hb4⟩
    rw [HLU.out]
    have HSA := Lib.hid (HSAME.out A4 c4 B4 hp4)
    obtain ⟨b4, hl4⟩ : ∃ n, B4.length = n := ⟨_, rfl⟩
    rw [hl4] at HSA ⊢
    have hbw4 := (hbz3.trans (hb4.mono hbz3.size))
    have hbz4 := hbw4.alloc hbw4.size (.cells #[.slice A4 b4 c4, .int .i64 (lu : Int)] 27)
    have hr4 := (Rd.of_own own4).alloc (.cells #[.slice A4 b4 c4, .int .i64 (lu : Int)] 27)
    have hr34 := (hr3.below hb4).alloc (.cells #[.slice A4 b4 c4, .int .i64 (lu : Int)] 27)
    have HY4 := Lib.hid (Blk.new w4 27 #[.slice A4 b4 c4, .int .i64 (lu : Int)])
    replace HY3 := Lib.hid ((HY3.out.below hb4 HY3.out.lt).alloc (.cells #[.slice A4 b4 c4, .int .i64 (lu : Int)] 27))
    clear hp4 own4 hb4 hl4 x0 x1 hr3 HX HSAME HC
    have y0 := HY3.out.cell 0
    have y1 := HY3.out.cell 1
    have z0 := HY4.out.cell 0
    have z1 := HY4.out.cell 1
    go_wp2_with fail
    refine (HSA.out _ hr34 hr4).mono ?_
    rintro e wz ⟨rfl, hbz⟩
    have hbwz := hbz4.trans (hbz.mono hbz4.size)
    clear y0 y1 z0 z1 hbz HSA hr34 hr4 HY3 HY4
    go_wp2_with fail
    refine (HPA.out _).mono ?_
    rintro e w5 ⟨A5, c5, B5, rfl, hp5, own5, hb5⟩
    rw [HNA.out]
    obtain ⟨b5, hl5⟩ : ∃ n, B5.length = n := ⟨_, rfl⟩
    rw [hl5]
    have HY := Lib.hid (Blk.new w5 27 #[.slice A5 b5 c5, .int .i64 (na : Int)])
    have hbz5 := (hbwz.trans (hb5.mono hbwz.size)).alloc (hbwz.trans (hb5.mono hbwz.size)).size (.cells #[.slice A5 b5 c5, .int .i64 (na : Int)] 27)
    clear hp5 own5 hb5 hl5
    go_wp2_with fail
    first | rw [HQ.out] | skip
    refine (HPB.out _).mono ?_
    rintro e w6 ⟨A6, c6, B6, rfl, hp6, own6, hb6⟩
    rw [HNB.out]
    obtain ⟨b6, hl6⟩ : ∃ n, B6.length = n := ⟨_, rfl⟩
    rw [hl6]
    have y1 := ((HY.out.below hb6 HY.out.lt).alloc (.cells #[.slice A6 b6 c6, .int .i64 (nb : Int)] 27)).cell 1
    have HZ := Lib.hid (Blk.new w6 27 #[.slice A6 b6 c6, .int .i64 (nb : Int)])
    have z1 := HZ.out.cell 1
    have hbz6 := (hbz5.trans (hb6.mono hbz5.size)).alloc (hbz5.trans (hb6.mono hbz5.size)).size (.cells #[.slice A6 b6 c6, .int .i64 (nb : Int)] 27)
    clear hp6 own6 hb6 hl6
    go_wp2_with fail
    go_ret
    exact ⟨rfl, hbz6⟩

set_option maxRecDepth 100000 in
theorem lifted_ZigOnly (os : Os) (started : os.Started) (H : Type) (enc : TypeId × Value → H) :
    ReturnsInHanded {} Try.checked os 8 .any (Rows.zigOnlySpec.pre6 enc Try.prog Try.f8 Rows.zigOnlyRow.domain false) (Rows.zigOnlySpec.post enc Try.prog Try.f8 false true false false) := by
  refine returnsInHanded_of_change (C := Try.checked) own started (by kernel_rfl) Try.func8
    (ChangeSpec.witness6 (enc := enc) (C := Try.checked) false ⟨#[], #[.agg #[.slice none 0 0, .int .i64 0], .int .i64 0, .int .i64 0], []⟩ 8 (by kernel_rfl) (by kernel_rfl) (by kernel_rfl) (by kernel_rfl)) ?_
  intro W base args ds gs before hval0 hW hcnd _
  have hval : ∀ (j : Nat) t v, Try.f8.params[j]? = some t → args[j]? = some v → Value.okWide Try.prog W .any base t v := hval0
  have hW' := hW
  obtain ⟨p, q, hA0, hV, rfl, hfz, hnd⟩ := hW
  have hA : DataW.TrodAll enc Try.prog W 0 (fun _ => true) true Try.f8.params.toList args.toList ds p := hA0
  rw [Try.params8] at hA hval
  obtain ⟨v0, vs0, d0, ds0, p0, q0, hargs, rfl, rfl, h0, r0⟩ := trodAll_cons hA
  obtain ⟨v1, vs1, d1, ds1, p1, q1, rfl, rfl, rfl, h1, r1⟩ := trodAll_cons r0
  obtain ⟨v2, vs2, d2, ds2, p2, q2, rfl, rfl, rfl, h2, r2⟩ := trodAll_cons r1
  obtain ⟨rfl, rfl, rfl⟩ := trodAll_nil r2
  obtain rfl : args = #[v0, v1, v2] := by cases args; simp_all
  obtain ⟨rfl, rfl⟩ := trodVars_none hV
  have k0 := h0
  have lt0 : ∀ x ∈ p0, x.block < W.heap.size := by obtain ⟨m, hm⟩ := k0; exact DataW.trod_lt m _ _ _ hm
  obtain ⟨A0, c0, B0, N0, rfl, rd0, by0, rg0⟩ := open_bits (hval 0 27 v0 rfl rfl) h0
  obtain ⟨a1, rfl, rfl, rfl, w1⟩ := open_int Try.underlying3 (hval 1 3 v1 rfl rfl) h1
  obtain ⟨a2, rfl, rfl, rfl, w2⟩ := open_int Try.underlying2 (hval 2 2 v2 rfl rfl) h2
  clear hA0 hval0
  refine (walk_ZigOnly W A0 c0 B0 N0 rd0 by0 rg0 a1 (range_i64 w1) a2 (range_i64 w2)).mono fun e W' ⟨he, bel⟩ => ?_
  subst he
  exact ⟨_, rfl, _, _, _, [], _, [], hW', trodAll_mk1 (shut_bool Try.underlying4 _), (trodAll_cons_mk (Below.trod laidOut (by kernel_rfl) (of_decide_eq_true (by kernel_rfl)) k0 bel lt0) (trodAll_cons_mk (shut_int Try.underlying3 w1) (trodAll_cons_mk (shut_int Try.underlying2 w2) trodAll_mk0))), rfl, bel.frame _, fun h => by cases h⟩

theorem over_ZigOnly : Rows.zigOnlyRow.holds Try.pinned (OpenSpec.ofChange Rows.zigOnlySpec) :=
  OpenClaim.holds_of_wide 8 Try.f8 rfl rfl rfl rfl rfl rfl rfl ⟨rfl, rfl, rfl, rfl, rfl⟩ rfl rfl rfl rfl rfl (by kernel_rfl) Try.func8 (by kernel_rfl)
    (of_decide_eq_true (by kernel_rfl)) (by unfold Func.isWrapper; first | (rw [if_pos (by decide +kernel)]; kernel_rfl) | (rw [if_neg (by decide +kernel)]; exact ⟨rfl, rfl⟩))
    (fun os started H enc _ => lifted_ZigOnly os started H enc)

theorem zigOnly_holds : Rows.ZigOnlySaid := over_ZigOnly

#print axioms zigOnly_holds
end Go.Proofs.Yteemncpmcfflmaa
