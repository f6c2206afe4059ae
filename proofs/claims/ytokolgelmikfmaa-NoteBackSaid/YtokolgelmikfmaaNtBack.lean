/-
  Rows.NoteBackSaid is proved: a note that may be is read as it was written, in at most 600 bytes; a front of it is none. No condition.
-/
import Derived.Test.YtokolgelmikfmaaNtOpen
namespace Go.Proofs.Ytokolgelmikfmaa
open Go.ChangeShapes Go.WideShapes Go.ChangeAt Go.RowKit
open Pl
set_option linter.unusedVariables false

theorem own_cap {w : World} {base : Nat} {e : TypeId} {size : Nat} {A : Option Addr} {n c : Nat} {xs : List Value} (h : w.ownsRow base e size (.slice A n c) n xs) : n ≤ c := by
  obtain ⟨A', c', h1, h2⟩ := own_shape h
  injection h1 with _ _ h3
  omega

set_option maxRecDepth 100000 in
set_option maxHeartbeats 4000000 in
theorem walk_NoteBack (w : World) (x : Nt) (hx : x.Ok) (A : Option Addr) (c : Nat) (hr : Rd w A x.B) (k : Int) (hk : -9223372036854775808 ≤ k ∧ k ≤ 9223372036854775807) :
    Calls Try.prog 5 #[nv x A c, .int .i64 k] w fun e w' => e = .returned (.bool true) ∧ Below w.heap.size w w' := by
  by_cases hbig : (1000 : Int) < (x.B.length : Int)
  · unfold nv
    obtain ⟨n, hn⟩ : ∃ n, x.B.length = n := ⟨_, rfl⟩
    rw [hn] at hbig ⊢
    have hd' : decide (1000 < n) = true := by simp; omega
    clear hr hx hn hk
    go_enter Try.func5, Try.ntmps5
    go_wp2_with fail
    refine (known_any _).mono ?_
    rintro e w1 ⟨rfl, hb1⟩
    go_wp2_with fail
    go_ret
    exact ⟨rfl, ((Below.refl _ _).alloc (Nat.le_refl _) _).trans (hb1.mono (by simp))⟩
  cases hm : mayB x
  · have ENC := fun wx (h : Rd wx A x.B) => encode_none x hx (by omega) hm A c wx h
    unfold RetBytes at ENC
    unfold nv at ENC ⊢
    obtain ⟨n, hn⟩ : ∃ n, x.B.length = n := ⟨_, rfl⟩
    rw [hn] at hbig ENC ⊢
    have hd' : decide (1000 < n) = false := by simp; omega
    have HE := Lib.hid ENC
    have hnI : (n : Int) ≤ 1000 := by omega
    clear hx hn ENC hm hbig hk
    go_enter Try.func5, Try.ntmps5
    go_wp2_with fail
    refine (known_any _).mono ?_
    rintro e w1 ⟨rfl, hb1⟩
    have hx1 := (Blk.new w _ _).below hb1 (by simp)
    have x0 := cells12 hx1
    have hbw : Below w.heap.size w w1 := ((Below.refl _ _).alloc (Nat.le_refl _) _).trans (hb1.mono (by simp))
    clear hb1 hx1
    go_wp2_with fail
    refine (HE.out _ (hr.below hbw)).mono ?_
    rintro e w2 ⟨A2, c2, rfl, hown, hb2⟩
    clear hown
    go_wp2_with fail
    go_ret
    exact ⟨rfl, hbw.trans (hb2.mono hbw.size)⟩
  · have ENC := fun wx (h : Rd wx A x.B) => encode_may x hx (by omega) hm A c wx h
    have hgood := good_enc hx hm
    have hlong := good_long hgood
    have hpe := parse_enc hx hm
    have hEB := enc_byts hx
    obtain ⟨L, hL⟩ : ∃ L, enc x = L := ⟨_, rfl⟩
    rw [hL] at ENC hgood hlong hpe hEB
    have DEC1 := fun A2 c2 wx (h : Rd wx A2 L) (hc : L.length ≤ c2) => decode_any A2 c2 L hEB (by omega) wx h hc
    rw [hgood] at DEC1
    simp only [if_true] at DEC1
    rw [hpe] at DEC1
    have DEC2 : ∀ j, j < L.length → ∀ A2 c2 wx, Rd wx A2 L → L.length ≤ c2 → Calls Try.prog 13 #[.slice A2 j c2] wx (RetNote .u16 z0 110 wx) := fun j hj A2 c2 wx h hc => by
      have hlj : (L.take j).length = j := by rw [List.length_take]; omega
      have hrj : Rd wx A2 (L.take j) := ((Rdl.of_rd h (Nat.le_refl _)).take j).rd (Nat.le_refl _)
      have := decode_any A2 c2 (L.take j) (fun y hy => hEB y (List.mem_of_mem_take hy)) (by rw [hlj]; omega) wx hrj (by rw [hlj]; omega)
      rw [bad_front hgood hj, hlj] at this
      exact this
    have SAME := fun A2 c2 wx (h : Rd wx A x.B) (h' : Rd wx A2 x.B) => rnsame_any x x hx.2.2.2.2.2.2.2.2.2.1 hx.2.2.2.2.2.2.2.2.2.1 A A2 c c2 wx h h'
    rw [(sameB_iff x x).2 rfl] at SAME
    obtain ⟨m, hmm⟩ : ∃ m, L.length = m := ⟨_, rfl⟩
    have HM := Lib.hid hmm
    unfold RetNote at DEC1 DEC2
    unfold RetBytes at ENC
    unfold nv at ENC DEC1 DEC2 SAME ⊢
    obtain ⟨n, hn⟩ : ∃ n, x.B.length = n := ⟨_, rfl⟩
    rw [hn] at hbig ENC DEC1 SAME ⊢
    rw [hmm] at ENC DEC1 DEC2 hlong
    unfold z0 at DEC2
    have hd' : decide (1000 < n) = false := by simp; omega
    have HE := Lib.hid ENC
    have HD1 := Lib.hid DEC1
    have HD2 := Lib.hid DEC2
    have HS := Lib.hid SAME
    have hnI : (n : Int) ≤ 1000 := by omega
    have hm5 : (5 : Int) ≤ (m : Int) := by omega
    have hm6 : (m : Int) ≤ 600 := by omega
    have hm7 : ¬ (m : Int) = 0 := by omega
    have hkl := hk.1
    have hku := hk.2
    clear hx hn ENC hm hbig hk DEC1 DEC2 SAME hgood hlong hpe hEB hL hmm
    go_enter Try.func5, Try.ntmps5
    go_wp2_with fail
    refine (known_any _).mono ?_
    rintro e w1 ⟨rfl, hb1⟩
    have hx1 := (Blk.new w _ _).below hb1 (by simp)
    have x0 := cells12 hx1
    have HX := Lib.hid hx1
    have hbw : Below w.heap.size w w1 := ((Below.refl _ _).alloc (Nat.le_refl _) _).trans (hb1.mono (by simp))
    clear hb1 hx1
    go_wp2_with fail
    refine (HE.out _ (hr.below hbw)).mono ?_
    rintro e w2 ⟨A2, c2, rfl, hown, hb2⟩
    have hrL := Rd.of_own hown
    have hmc := own_cap hown
    have hbw2 := hbw.trans (hb2.mono hbw.size)
    replace HX := Lib.hid (HX.out.below hb2 HX.out.lt)
    have hrx := (hr.below hbw).below hb2
    clear hown hb2 HE x0
    go_wp2_with fail
    refine (HD1.out _ _ _ hrL hmc).mono ?_
    rintro e w3 ⟨A3, c3, rfl, hown3, hb3⟩
    have hr3 := (Rd.of_own hown3)
    have hrL3 := hrL.below hb3
    have hrx3 := hrx.below hb3
    replace HX := Lib.hid (HX.out.below hb3 HX.out.lt)
    have hbw3 := hbw2.trans (hb3.mono hbw2.size)
    clear hown3 hb3 HD1 hrL hrx
    have hbz := hbw3.alloc hbw3.size (.cells #[.int .u8 x.k, .int .u32 x.e, .int .u32 x.s, .int .i64 x.t, .int .u64 x.v, .int .u32 x.c, .int .u32 x.b, .int .u32 x.m, .int .u32 x.n, .bool x.z, .slice A3 n c3, .int .i64 x.N] 32)
    have HY := Lib.hid (Blk.new w3 32 #[.int .u8 x.k, .int .u32 x.e, .int .u32 x.s, .int .i64 x.t, .int .u64 x.v, .int .u32 x.c, .int .u32 x.b, .int .u32 x.m, .int .u32 x.n, .bool x.z, .slice A3 n c3, .int .i64 x.N])
    replace HX := Lib.hid (HX.out.alloc (.cells #[.int .u8 x.k, .int .u32 x.e, .int .u32 x.s, .int .i64 x.t, .int .u64 x.v, .int .u32 x.c, .int .u32 x.b, .int .u32 x.m, .int .u32 x.n, .bool x.z, .slice A3 n c3, .int .i64 x.N] 32))
    replace hr3 := hr3.alloc (.cells #[.int .u8 x.k, .int .u32 x.e, .int .u32 x.s, .int .i64 x.t, .int .u64 x.v, .int .u32 x.c, .int .u32 x.b, .int .u32 x.m, .int .u32 x.n, .bool x.z, .slice A3 n c3, .int .i64 x.N] 32)
    replace hrL3 := hrL3.alloc (.cells #[.int .u8 x.k, .int .u32 x.e, .int .u32 x.s, .int .i64 x.t, .int .u64 x.v, .int .u32 x.c, .int .u32 x.b, .int .u32 x.m, .int .u32 x.n, .bool x.z, .slice A3 n c3, .int .i64 x.N] 32)
    replace hrx3 := hrx3.alloc (.cells #[.int .u8 x.k, .int .u32 x.e, .int .u32 x.s, .int .i64 x.t, .int .u64 x.v, .int .u32 x.c, .int .u32 x.b, .int .u32 x.m, .int .u32 x.n, .bool x.z, .slice A3 n c3, .int .i64 x.N] 32)
    have hmcI : (m : Int) ≤ (c2 : Int) := by omega
    by_cases hk0 : 0 ≤ k
    · have hj0 : 0 ≤ k % (m : Int) := Int.emod_nonneg _ hm7
      have hj1 : k % (m : Int) < (m : Int) := Int.emod_lt_of_pos _ (by omega)
      go_wp2_with fail
      refine (HD2.out _ (by omega) _ _ _ hrL3 hmc).mono ?_
      rintro e w4 ⟨A4, c4, rfl, hown4, hb4⟩
      have HX4 := Lib.hid ((HX.out.below hb4 HX.out.lt).alloc (.cells #[.int .u8 0, .int .u32 0, .int .u32 0, .int .i64 0, .int .u64 0, .int .u32 0, .int .u32 0, .int .u32 0, .int .u32 0, .bool false, .slice A4 0 c4, .int .i64 0] 32))
      have HY4 := Lib.hid ((HY.out.below hb4 HY.out.lt).alloc (.cells #[.int .u8 0, .int .u32 0, .int .u32 0, .int .i64 0, .int .u64 0, .int .u32 0, .int .u32 0, .int .u32 0, .int .u32 0, .bool false, .slice A4 0 c4, .int .i64 0] 32))
      have hr4 := (hr3.below hb4).alloc (.cells #[.int .u8 0, .int .u32 0, .int .u32 0, .int .i64 0, .int .u64 0, .int .u32 0, .int .u32 0, .int .u32 0, .int .u32 0, .bool false, .slice A4 0 c4, .int .i64 0] 32)
      have hrx4 := (hrx3.below hb4).alloc (.cells #[.int .u8 0, .int .u32 0, .int .u32 0, .int .i64 0, .int .u64 0, .int .u32 0, .int .u32 0, .int .u32 0, .int .u32 0, .bool false, .slice A4 0 c4, .int .i64 0] 32)
      have hbw4 := hbz.trans (hb4.mono hbz.size)
      have hbv := hbw4.alloc hbw4.size (.cells #[.int .u8 0, .int .u32 0, .int .u32 0, .int .i64 0, .int .u64 0, .int .u32 0, .int .u32 0, .int .u32 0, .int .u32 0, .bool false, .slice A4 0 c4, .int .i64 0] 32)
      clear hown4 hb4 HX HY hr3 hrx3 hrL3 HD2
      have x0 := cells12 HX4.out
      have y0 := cells12 HY4.out
      go_wp2_with fail
      refine (HS.out _ _ _ hrx4 hr4).mono ?_
      rintro e w5 ⟨rfl, hb5⟩
      go_wp2_with fail
      go_ret
      exact ⟨rfl, hbv.trans (hb5.mono hbv.size)⟩
    · have hk1 : k < 0 := by omega
      go_wp2_with fail
      refine (HD2.out _ (by omega) _ _ _ hrL3 hmc).mono ?_
      rintro e w4 ⟨A4, c4, rfl, hown4, hb4⟩
      have HX4 := Lib.hid ((HX.out.below hb4 HX.out.lt).alloc (.cells #[.int .u8 0, .int .u32 0, .int .u32 0, .int .i64 0, .int .u64 0, .int .u32 0, .int .u32 0, .int .u32 0, .int .u32 0, .bool false, .slice A4 0 c4, .int .i64 0] 32))
      have HY4 := Lib.hid ((HY.out.below hb4 HY.out.lt).alloc (.cells #[.int .u8 0, .int .u32 0, .int .u32 0, .int .i64 0, .int .u64 0, .int .u32 0, .int .u32 0, .int .u32 0, .int .u32 0, .bool false, .slice A4 0 c4, .int .i64 0] 32))
      have hr4 := (hr3.below hb4).alloc (.cells #[.int .u8 0, .int .u32 0, .int .u32 0, .int .i64 0, .int .u64 0, .int .u32 0, .int .u32 0, .int .u32 0, .int .u32 0, .bool false, .slice A4 0 c4, .int .i64 0] 32)
      have hrx4 := (hrx3.below hb4).alloc (.cells #[.int .u8 0, .int .u32 0, .int .u32 0, .int .i64 0, .int .u64 0, .int .u32 0, .int .u32 0, .int .u32 0, .int .u32 0, .bool false, .slice A4 0 c4, .int .i64 0] 32)
      have hbw4 := hbz.trans (hb4.mono hbz.size)
      have hbv := hbw4.alloc hbw4.size (.cells #[.int .u8 0, .int .u32 0, .int .u32 0, .int .i64 0, .int .u64 0, .int .u32 0, .int .u32 0, .int .u32 0, .int .u32 0, .bool false, .slice A4 0 c4, .int .i64 0] 32)
      clear hown4 hb4 HX HY hr3 hrx3 hrL3 HD2
      have x0 := cells12 HX4.out
      have y0 := cells12 HY4.out
      go_wp2_with fail
      refine (HS.out _ _ _ hrx4 hr4).mono ?_
      rintro e w5 ⟨rfl, hb5⟩
      go_wp2_with fail
      go_ret
      exact ⟨rfl, hbv.trans (hb5.mono hbv.size)⟩

set_option maxRecDepth 100000 in
theorem lifted_NoteBack (os : Os) (started : os.Started) (H : Type) (enc : TypeId × Value → H) :
    ReturnsInHanded {} Try.checked os 5 .any (Rows.noteBackSpec.pre6 enc Try.prog Try.f5 Rows.noteBackRow.domain false) (Rows.noteBackSpec.post enc Try.prog Try.f5 false true false false) := by
  refine returnsInHanded_of_change (C := Try.checked) own started (by kernel_rfl) Try.func5
    (ChangeSpec.witness6 (enc := enc) (C := Try.checked) false ⟨#[], #[.agg #[.int .u8 0, .int .u32 0, .int .u32 0, .int .i64 0, .int .u64 0, .int .u32 0, .int .u32 0, .int .u32 0, .int .u32 0, .bool false, .slice none 0 0, .int .i64 0], .int .i64 0], []⟩ 8 (by kernel_rfl) (by kernel_rfl) (by kernel_rfl) (by kernel_rfl)) ?_
  intro W base args ds gs before hval0 hW hcnd _
  have hval : ∀ (j : Nat) t v, Try.f5.params[j]? = some t → args[j]? = some v → Value.okWide Try.prog W .any base t v := hval0
  have hW' := hW
  obtain ⟨p, q, hA0, hV, rfl, hfz, hnd⟩ := hW
  have hA : DataW.TrodAll enc Try.prog W 0 (fun _ => true) true Try.f5.params.toList args.toList ds p := hA0
  rw [Try.params5] at hA hval
  obtain ⟨v0, vs0, d0, ds0, p0, q0, hargs, rfl, rfl, h0, r0⟩ := trodAll_cons hA
  obtain ⟨v1, vs1, d1, ds1, p1, q1, rfl, rfl, rfl, h1, r1⟩ := trodAll_cons r0
  obtain ⟨rfl, rfl, rfl⟩ := trodAll_nil r1
  obtain rfl : args = #[v0, v1] := by cases args; simp_all
  obtain ⟨rfl, rfl⟩ := trodVars_none hV
  have k0 := h0
  have lt0 : ∀ x ∈ p0, x.block < W.heap.size := by obtain ⟨m, hm⟩ := k0; exact DataW.trod_lt m _ _ _ hm
  obtain ⟨x0, A0, c0, ok0, rfl, rd0⟩ := open_note (hval 0 32 v0 rfl rfl) h0
  obtain ⟨a1, rfl, rfl, rfl, w1⟩ := open_int Try.underlying3 (hval 1 3 v1 rfl rfl) h1
  clear hA0 hval0
  refine (walk_NoteBack W x0 ok0 A0 c0 rd0 a1 (range_i64 w1)).mono fun e W' ⟨he, bel⟩ => ?_
  subst he
  exact ⟨_, rfl, _, _, _, [], _, [], hW', trodAll_mk1 (shut_bool Try.underlying4 _), (trodAll_cons_mk (Below.trod laidOut (by kernel_rfl) (of_decide_eq_true (by kernel_rfl)) k0 bel lt0) (trodAll_cons_mk (shut_int Try.underlying3 w1) trodAll_mk0)), rfl, bel.frame _, fun h => by cases h⟩

theorem over_NoteBack : Rows.noteBackRow.holds Try.pinned (OpenSpec.ofChange Rows.noteBackSpec) :=
  OpenClaim.holds_of_wide 5 Try.f5 rfl rfl rfl rfl rfl rfl rfl ⟨rfl, rfl, rfl, rfl, rfl⟩ rfl rfl rfl rfl rfl (by kernel_rfl) Try.func5 (by kernel_rfl)
    (of_decide_eq_true (by kernel_rfl)) (by unfold Func.isWrapper; first | (rw [if_pos (by decide +kernel)]; kernel_rfl) | (rw [if_neg (by decide +kernel)]; exact ⟨rfl, rfl⟩))
    (fun os started H enc _ => lifted_NoteBack os started H enc)

theorem noteBack_holds : Rows.NoteBackSaid := over_NoteBack

#print axioms noteBack_holds
end Go.Proofs.Ytokolgelmikfmaa
