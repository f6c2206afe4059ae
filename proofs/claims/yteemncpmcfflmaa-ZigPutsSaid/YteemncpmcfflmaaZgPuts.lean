/-
  Rows.ZigPutsSaid is proved: Put of any bits and number is what the chapter says. No condition.
-/
import Derived.Test.YteemncpmcfflmaaZgOpen
namespace Go.Proofs.Yteemncpmcfflmaa
open Go.ChangeShapes Go.WideShapes Go.ChangeAt Go.RowKit
open Pl
set_option linter.unusedVariables false

/-- The call answers these bytes in a row of its own, this number of bits, this error. -/
def RetAny (k : IntKind) (B : List Int) (N x : Int) (w : World) (e : Ending) (w' : World) : Prop :=
  ∃ A c, e = .returned (.tuple #[.agg #[.slice A B.length c, .int .i64 N], .int k x]) ∧ w'.ownsRow w.heap.size 5 1 (.slice A B.length c) B.length (u8s B) ∧ Below w.heap.size w w'
theorem RetAny.of_bits {k : IntKind} {L : List Bool} {B : List Int} {w w' : World} {e : Ending} (hp : Packs B L) (h : RetBits 5 k L w e w') : RetAny k B (L.length : Int) 0 w e w' := by
  obtain ⟨A, c, B', he, hp', hown, hb⟩ := h
  obtain rfl := packs_inj hp' hp
  exact ⟨A, c, he, hown, hb⟩
theorem RetAny.of_none {k : IntKind} {x : Int} {w w' : World} {e : Ending} (h : RetNone k x w e w') : RetAny k [] 0 x w e w' :=
  ⟨none, 0, h.1, World.ownsRow_nil _ _ _ _, h.2⟩
theorem packs_exist (L : List Bool) : ∃ B, Packs B L := by
  have h : ∀ k, k ≤ L.length → ∃ B, Packs B (L.take k) := by
    intro k
    induction k with
    | zero => intro _; exact ⟨[], by simpa using packs_nil⟩
    | succ k ih =>
      intro hk
      obtain ⟨B, hB⟩ := ih (by omega)
      by_cases h8 : k % 8 = 0
      · exact ⟨_, of_new hB (by omega) h8⟩
      · exact ⟨_, of_in hB (by omega) h8⟩
  obtain ⟨B, hB⟩ := h L.length (Nat.le_refl _)
  rw [List.take_length] at hB
  exact ⟨B, hB⟩

theorem zput_both (B : List Int) (N v : Int) (hB : Byts B) (hN : -9223372036854775808 ≤ N ∧ N ≤ 9223372036854775807) (hv : I64 v) (hl : (B.length : Int) ≤ 500) :
    ∃ B' N' x, Byts B' ∧ (x = 0 ∨ x = 11) ∧ (∀ wx A c, Rd wx A B → Calls Try.prog 16 #[.agg #[.slice A B.length c, .int .i64 N], .int .i64 v] wx (RetAny .u16 B' N' x wx)) ∧
      (∀ wx A c, Rd wx A B → Calls Try.prog 17 #[.agg #[.slice A B.length c, .int .i64 N], .int .i64 v] wx (RetAny .i64 B' N' x wx)) := by
  by_cases hs : Snd B N
  · have hp := packs_of_snd hB hs
    obtain ⟨L, hL⟩ : ∃ L, bitsOf B N.toNat = L := ⟨_, rfl⟩
    have hLN : N = (L.length : Int) := by rw [← hL, bitsOf_length]; have := hs.1; omega
    rw [hL] at hp
    subst hLN
    obtain ⟨B', hB'⟩ := packs_exist (L ++ code v)
    exact ⟨B', _, 0, hB'.byts, .inl rfl, fun wx A c h => (zput_sound A c B L v wx h hp (by omega) hv).mono fun _ _ h => .of_bits hB' h,
      fun wx A c h => (rzput_sound A c B L v wx h hp (by omega) hv).mono fun _ _ h => .of_bits hB' h⟩
  · exact ⟨[], 0, 11, fun x hx => absurd hx (by simp), .inr rfl, fun wx A c h => (zput_unsound A c B N v wx h hB hN (by omega) hs hv).mono fun _ _ h => .of_none h,
      fun wx A c h => (rzput_unsound A c B N v wx h hB hN (by omega) hs).mono fun _ _ h => .of_none h⟩

set_option maxRecDepth 100000 in
set_option maxHeartbeats 2000000 in
theorem walk_ZigPuts (w : World) (A : Option Addr) (c : Nat) (B : List Int) (N : Int) (hr : Rd w A B) (hB : Byts B) (hN : -9223372036854775808 ≤ N ∧ N ≤ 9223372036854775807) (v : Int) (hv : -9223372036854775808 ≤ v ∧ v ≤ 9223372036854775807) :
    Calls Try.prog 5 #[.agg #[.slice A B.length c, .int .i64 N], .int .i64 v] w fun e w' => e = .returned (.bool true) ∧ Below w.heap.size w w' := by
  by_cases hbig : (500 : Int) < (B.length : Int)
  · have hd' : decide (500 < B.length) = true := by simp; omega
    clear hN hB hr hv
    go_enter Try.func5, Try.ntmps5
    go_wp2_with fail
    refine (known_any _).mono ?_
    rintro e w1 ⟨rfl, hb1⟩
    go_wp2_with fail
    go_ret
    exact ⟨rfl, ((Below.refl _ _).alloc (Nat.le_refl _) _).trans (hb1.mono (by simp))⟩
  have hd' : decide (500 < B.length) = false := by simp; omega
  obtain ⟨B', N', x, hBy, hx, h1, h2⟩ := zput_both B N v hB hN hv (by omega)
  have hl : B.length ≤ 500 := by omega
  obtain ⟨n, hn⟩ : ∃ n, B.length = n := ⟨_, rfl⟩
  rw [hn] at hd' h1 h2 hl
  rw [hn]
  have H1 := Lib.hid h1
  have H2 := Lib.hid h2
  have HBY := Lib.hid hBy
  have hsa := fun A1 c1 A2 c2 wx (k1 : Rd wx A1 B') (k2 : Rd wx A2 B') => (same_any A1 A2 c1 c2 B' B' N' N' wx k1 k2 hBy hBy).mono (R' := fun e w' => e = .returned (.bool true) ∧ Below wx.heap.size wx w') fun e w' h => ⟨by rw [h.1]; simp, h.2⟩
  have HSA := Lib.hid hsa
  obtain ⟨n', hn'⟩ : ∃ n, B'.length = n := ⟨_, rfl⟩
  unfold RetAny at H1 H2
  rw [hn'] at H1 H2 HSA
  have hx0 := hx
  clear hB hN hv hbig hn h1 h2 hBy hx hsa
  go_enter Try.func5, Try.ntmps5
  go_wp2_with fail
  refine (known_any _).mono ?_
  rintro e w1 ⟨rfl, hb1⟩
  have hbw1 : Below w.heap.size w w1 := ((Below.refl _ _).alloc (Nat.le_refl _) _).trans (hb1.mono (by simp))
  have HX : Hid (Blk w1 w.heap.size 27 #[.slice A n c, .int .i64 N]) := Lib.hid ((Blk.new w _ _).below hb1 (by simp))
  clear hb1
  have x0 := HX.out.cell 0
  have x1 := HX.out.cell 1
  go_wp2_with fail
  refine (H1.out _ _ _ (hr.below hbw1)).mono ?_
  rintro e w2 ⟨A1, c1, rfl, hown1, hb2⟩
  have hbw2 := hbw1.trans (hb2.mono hbw1.size)
  have hr1 := (Rd.of_own hown1).alloc (.cells #[.slice A1 n' c1, .int .i64 N'] 27)
  replace HX := Lib.hid ((HX.out.below hb2 HX.out.lt).alloc (.cells #[.slice A1 n' c1, .int .i64 N'] 27))
  have HY := Lib.hid (Blk.new w2 27 #[.slice A1 n' c1, .int .i64 N'])
  have hbz2 := hbw2.alloc hbw2.size (.cells #[.slice A1 n' c1, .int .i64 N'] 27)
  clear hb2 hown1 x0 x1
  have x0 := HX.out.cell 0
  have x1 := HX.out.cell 1
  go_wp2_with fail
  refine (H2.out _ _ _ (hr.below hbz2)).mono ?_
  rintro e w3 ⟨A2, c2, rfl, hown2, hb3⟩
  have hbw3 := hbz2.trans (hb3.mono hbz2.size)
  have hr2 := (Rd.of_own hown2).alloc (.cells #[.slice A2 n' c2, .int .i64 N'] 27)
  replace hr1 := (hr1.below hb3).alloc (.cells #[.slice A2 n' c2, .int .i64 N'] 27)
  replace HY := Lib.hid ((HY.out.below hb3 HY.out.lt).alloc (.cells #[.slice A2 n' c2, .int .i64 N'] 27))
  have HZ := Lib.hid (Blk.new w3 27 #[.slice A2 n' c2, .int .i64 N'])
  have hbz3 := hbw3.alloc hbw3.size (.cells #[.slice A2 n' c2, .int .i64 N'] 27)
  clear hb3 hown2 x0 x1 HX
  have y0 := HY.out.cell 0
  have y1 := HY.out.cell 1
  have q0 := HZ.out.cell 0
  have q1 := HZ.out.cell 1
  rcases hx0 with rfl | rfl
  all_goals
    go_wp2_with fail
    refine (HSA.out _ _ _ _ _ hr1 hr2).mono ?_
    rintro e w4 ⟨rfl, hb4⟩
    go_wp2_with fail
    go_ret
    exact ⟨rfl, hbz3.trans (hb4.mono hbz3.size)⟩

set_option maxRecDepth 100000 in
theorem lifted_ZigPuts (os : Os) (started : os.Started) (H : Type) (enc : TypeId × Value → H) :
    ReturnsInHanded {} Try.checked os 5 .any (Rows.zigPutsSpec.pre6 enc Try.prog Try.f5 Rows.zigPutsRow.domain false) (Rows.zigPutsSpec.post enc Try.prog Try.f5 false true false false) := by
  refine returnsInHanded_of_change (C := Try.checked) own started (by kernel_rfl) Try.func5
    (ChangeSpec.witness6 (enc := enc) (C := Try.checked) false ⟨#[], #[.agg #[.slice none 0 0, .int .i64 0], .int .i64 0], []⟩ 8 (by kernel_rfl) (by kernel_rfl) (by kernel_rfl) (by kernel_rfl)) ?_
  intro W base args ds gs before hval0 hW hcnd _
  have hval : ∀ (j : Nat) t v, Try.f5.params[j]? = some t → args[j]? = some v → Value.okWide Try.prog W .any base t v := hval0
  have hW' := hW
  obtain ⟨p, q, hA0, hV, rfl, hfz, hnd⟩ := hW
  have hA : DataW.TrodAll enc Try.prog W 0 (fun _ => true) true Try.f5.params.toList args.toList ds p := hA0
  rw [Try.params5] at hA hval
  obtain ⟨v0, vs0, d0, ds0, p0, q0, hargs, rfl, rfl, h0, r0⟩ := trodAll_cons hA
  obtain ⟨v1, vs1, d1, ds1, p1, q1, rfl, rfl, rfl, h1, r1⟩ := trodAll_cons r0
  obtain ⟨rfl, rfl, rfl⟩ := trodAll_nil r1
  obtain rfl : args = #[v0, v1] := by cases args; simp_all
  obtain ⟨rfl, rfl⟩ := trodVars_none hV
  have k0 := h0
  have lt0 : ∀ x ∈ p0, x.block < W.heap.size := by obtain ⟨m, hm⟩ := k0; exact DataW.trod_lt m _ _ _ hm
  obtain ⟨A0, c0, B0, N0, rfl, rd0, by0, rg0⟩ := open_bits (hval 0 27 v0 rfl rfl) h0
  obtain ⟨a1, rfl, rfl, rfl, w1⟩ := open_int Try.underlying2 (hval 1 2 v1 rfl rfl) h1
  clear hA0 hval0
  refine (walk_ZigPuts W A0 c0 B0 N0 rd0 by0 rg0 a1 (range_i64 w1)).mono fun e W' ⟨he, bel⟩ => ?_
  subst he
  exact ⟨_, rfl, _, _, _, [], _, [], hW', trodAll_mk1 (shut_bool Try.underlying4 _), (trodAll_cons_mk (Below.trod laidOut (by kernel_rfl) (of_decide_eq_true (by kernel_rfl)) k0 bel lt0) (trodAll_cons_mk (shut_int Try.underlying2 w1) trodAll_mk0)), rfl, bel.frame _, fun h => by cases h⟩

theorem over_ZigPuts : Rows.zigPutsRow.holds Try.pinned (OpenSpec.ofChange Rows.zigPutsSpec) :=
  OpenClaim.holds_of_wide 5 Try.f5 rfl rfl rfl rfl rfl rfl rfl ⟨rfl, rfl, rfl, rfl, rfl⟩ rfl rfl rfl rfl rfl (by kernel_rfl) Try.func5 (by kernel_rfl)
    (of_decide_eq_true (by kernel_rfl)) (by unfold Func.isWrapper; first | (rw [if_pos (by decide +kernel)]; kernel_rfl) | (rw [if_neg (by decide +kernel)]; exact ⟨rfl, rfl⟩))
    (fun os started H enc _ => lifted_ZigPuts os started H enc)

theorem zigPuts_holds : Rows.ZigPutsSaid := over_ZigPuts

#print axioms zigPuts_holds
end Go.Proofs.Yteemncpmcfflmaa
