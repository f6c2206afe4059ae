/-
  Rows.RollHalvesSaid is proved: for all bits by value and every place: the sum of bits that are cut is that of the halves joined, and the second half's bits behind the first one's sum. No condition.
-/
import Derived.Test.YtaphpejhppeopaaRollOpen
import Derived.Test.YtaphpejhppeopaaCutR
import Derived.Deep.DeepCutAuto
namespace Go.Proofs.Ytaphpejhppeopaa
open Go.ChangeShapes Go.WideShapes Go.ChangeAt Go.RowKit
open Pl
set_option linter.unusedVariables false

theorem genBlk {w : World} {t : TypeId} {cs : Array Value} : Blk (w.alloc (.cells cs t)) w.heap.size t cs := Blk.new w t cs

theorem more_append (s : Nat) (L M : List Bool) : moreN s (L ++ M) = moreN (moreN s L) M := by unfold moreN; rw [List.foldl_append]
theorem more_join {s : Nat} (hs : s < P) (M : List Bool) : joinN s (moreN 0 M) M.length = moreN s M := by
  have h : ∀ k, k ≤ M.length → joinN s (moreN 0 (M.take k)) k = moreN s (M.take k) := by
    intro k
    induction k with
    | zero => intro _; unfold joinN; rw [Nat.pow_zero, Nat.mul_one]; show (s + 0) % P = s; rw [Nat.add_zero, Nat.mod_eq_of_lt hs]
    | succ k ih =>
      intro hk
      rw [take_snoc (by omega), moreN_snoc, moreN_snoc, ← ih (by omega)]
      generalize moreN 0 (M.take k) = x
      unfold joinN nextN
      rw [Nat.add_mod_mod, ← Nat.mod_add_mod, ← Nat.mod_add_mod ((s * 1000000007 ^ k + x) % P * 1000000007), Nat.mod_mul_mod, Nat.mod_add_mod, Nat.mod_add_mod]
      congr 1
      rw [Nat.pow_succ, Nat.add_mul, Nat.mul_assoc, Nat.add_assoc]
  have := h M.length (Nat.le_refl _)
  rwa [List.take_length] at this
theorem P_zero : 0 < P := P_pos
theorem two_parts (L : List Bool) (F m : Nat) (hm : L.length = m) (hF : F ≤ m) : sub L 0 (F - 0) ++ sub L F (m - F) = L := by
  simp only [sub, List.drop_zero, Nat.sub_zero]
  rw [List.take_of_length_le (l := L.drop F) (by rw [List.length_drop]; omega), List.take_append_drop]
theorem pick_mod (i : Int) (m : Nat) : ∃ F : Nat, F ≤ m ∧ (i < 0 → F = 0) ∧ (¬ i < 0 → i % ((m : Int) + 1) = (F : Int)) := by
  by_cases h : i < 0
  · exact ⟨0, Nat.zero_le _, fun _ => rfl, fun h' => absurd h h'⟩
  · have h1 := Int.emod_nonneg i (b := (m : Int) + 1) (by omega)
    have h2 := Int.emod_lt_of_pos i (b := (m : Int) + 1) (by omega)
    exact ⟨(i % ((m : Int) + 1)).toNat, by omega, fun h' => absurd h' h, fun _ => by omega⟩

theorem of_len {A : Option Addr} {c : Nat} {B : List Int} {L : List Bool} {n R : Nat} (hp : Packs B L) (hl : L.length = n) (hn : n ≤ 1000) (hR : moreN 0 L = R) (w : World) (hr : Rd w A B) :
    Calls Try.prog 13 #[.agg #[.slice A B.length c, .int .i64 (n : Int)]] w fun e w' => e = .returned (.tuple #[.int .u64 (R : Nat), .int .u16 0]) ∧ Below w.heap.size w w' := by
  subst hl hR
  exact of_any A c B L w hr hp (by have := hp.len; omega)
theorem more_len {A : Option Addr} {c : Nat} {B : List Int} {L : List Bool} {n s R : Nat} (hs : s < P) (hp : Packs B L) (hl : L.length = n) (hn : n ≤ 1000) (hR : moreN s L = R) (w : World) (hr : Rd w A B) :
    Calls Try.prog 15 #[.int .u64 (s : Nat), .agg #[.slice A B.length c, .int .i64 (n : Int)]] w fun e w' => e = .returned (.tuple #[.int .u64 (R : Nat), .int .u16 0]) ∧ Below w.heap.size w w' := by
  subst hl hR
  have := more_any s A c B L w hr hp (by have := hp.len; omega)
  rw [Nat.mod_eq_of_lt hs] at this
  exact this

set_option maxRecDepth 100000 in
set_option maxHeartbeats 2000000 in
theorem walk_RollHalves (w : World) (A : Option Addr) (c : Nat) (B : List Int) (N : Int) (hr : Rd w A B) (hB : Byts B) (hN : -9223372036854775808 ≤ N ∧ N ≤ 9223372036854775807) (i : Int) (hi : -9223372036854775808 ≤ i ∧ i ≤ 9223372036854775807) :
    Calls Try.prog 7 #[.agg #[.slice A B.length c, .int .i64 N], .int .i64 i] w fun e w' => e = .returned (.bool true) ∧ Below w.heap.size w w' := by
  by_cases hbig : (60 : Int) < (B.length : Int)
  · have hd' : decide (60 < B.length) = true := by simp; omega
    clear hN hB hr
    go_enter Try.func7, Try.ntmps7
    go_wp2_with fail
    refine (known_any _).mono ?_
    rintro e w1 ⟨rfl, hb1⟩
    go_wp2_with fail
    go_ret
    exact ⟨rfl, ((Below.refl _ _).alloc (Nat.le_refl _) _).trans (hb1.mono (by simp))⟩
  have hd' : decide (60 < B.length) = false := by simp; omega
  have hl60 : B.length ≤ 60 := by omega
  by_cases hs : Snd B N
  case neg =>
    have HS := Lib.hid (sound_no (A := A) (c := c) hB hN (by omega) hs)
    obtain ⟨n, hn⟩ : ∃ n, B.length = n := ⟨_, rfl⟩
    unfold SoundSays at HS
    rw [hn] at HS hd' hl60
    rw [hn]
    clear hN hB hs hbig hn
    go_enter Try.func7, Try.ntmps7
    go_wp2_with fail
    refine (HS.out _ (hr.alloc _)).mono ?_
    rintro e w1 ⟨rfl, hb1⟩
    have hbw1 : Below w.heap.size w w1 := ((Below.refl _ _).alloc (Nat.le_refl _) _).trans (hb1.mono (by simp))
    go_wp2_with fail
    refine (known_any _).mono ?_
    rintro e w2 ⟨rfl, hb2⟩
    go_wp2_with fail
    go_ret
    exact ⟨rfl, hbw1.trans (hb2.mono hbw1.size)⟩
  have hp := packs_of_snd hB hs
  obtain ⟨L, hL⟩ : ∃ L, bitsOf B N.toNat = L := ⟨_, rfl⟩
  have hLN : N = (L.length : Int) := by rw [← hL, bitsOf_length]; have := hs.1; omega
  rw [hL] at hp
  obtain ⟨m, hm⟩ : ∃ m, L.length = m := ⟨_, rfl⟩
  rw [hm] at hLN
  subst hLN
  have hLB := packs_len_le hp
  have hm480 : m ≤ 480 := by omega
  have hS : SoundSays A c B (m : Int) true := by have := sound_yes (A := A) (c := c) hp (by omega); rw [hm] at this; exact this
  obtain ⟨F, hFm, hF0, hF1⟩ := pick_mod i m
  obtain ⟨X, hX⟩ : ∃ X, m - F = X := ⟨_, rfl⟩
  obtain ⟨pa, hpa⟩ : ∃ x, moreN 0 (sub L 0 (F - 0)) = x := ⟨_, rfl⟩
  obtain ⟨qa, hqa⟩ : ∃ x, moreN 0 (sub L F (m - F)) = x := ⟨_, rfl⟩
  obtain ⟨R, hR⟩ : ∃ x, moreN 0 L = x := ⟨_, rfl⟩
  have hpaP : pa < P := by rw [← hpa]; exact moreN_lt P_pos _
  have hmore : moreN pa (sub L F (m - F)) = R := by rw [← hpa, ← more_append, two_parts L F m hm hFm, hR]
  have hjoin : joinN pa qa X = R := by
    have := more_join hpaP (sub L F (m - F))
    rw [sub_length (by rw [hm]; omega), hX] at this
    rw [hX] at hqa hmore
    rw [← hqa, this]; exact hmore
  have hj := join_any pa qa (P_n64 hpaP) (X : Int) (by omega)
  rw [Int.toNat_natCast, hjoin] at hj
  obtain ⟨n, hn⟩ : ∃ n, B.length = n := ⟨_, rfl⟩
  unfold SoundSays at hS
  have hOx := fun wx h => of_len (A := A) (c := c) hp hm (by omega) hR wx h
  have hCA := fun (P T : Int) (p t : Nat) (hP : P = (p : Int)) (hT : T = (t : Int)) (h1 : p ≤ t) (h2 : t ≤ m) wx (h : Rd wx A B) => by
    have := cut_sound A c B L p t wx h hp (by omega) h1 (by rw [hm]; exact h2)
    rw [hm, ← hP, ← hT] at this
    exact this
  rw [hn] at hS hd' hOx hCA hl60
  rw [hn]
  have HS := Lib.hid hS
  have HOX := Lib.hid hOx
  have HCA := Lib.hid hCA
  have HJ := Lib.hid hj
  have HM := Lib.hid hm
  have HX := Lib.hid hX
  have HF0 := Lib.hid hF0
  have HF1 := Lib.hid hF1
  have HPA := Lib.hid hpa
  have HQA := Lib.hid hqa
  have HMO := Lib.hid hmore
  have HPP := Lib.hid hpaP
  have hm' : (m : Int) ≤ 480 := by omega
  have hm0 : ¬ ((m : Int) + 1 = 0) := by omega
  clear hN hB hs hbig hn hp hL hm hLB hS hF0 hF1 hX hpa hqa hR hpaP hmore hjoin hj hOx hCA
  go_enter Try.func7, Try.ntmps7
  go_wp2_with fail
  refine (HS.out _ (hr.alloc _)).mono ?_
  rintro e w1 ⟨rfl, hb1⟩
  have hbw1 : Below w.heap.size w w1 := ((Below.refl _ _).alloc (Nat.le_refl _) _).trans (hb1.mono (by simp))
  have HTx := Lib.hid (genBlk.below hb1 (by simp) : Blk w1 w.heap.size 29 #[.slice A n c, .int .i64 (m : Int)])
  have hRx := hr.below hbw1
  clear hb1
  have c0x := HTx.out.cell 0
  have c1x := HTx.out.cell 1
  go_wp2_with fail
  refine (known_any _).mono ?_
  rintro e w2 ⟨rfl, hb2⟩
  clear c0x c1x
  have hbw2 := hbw1.trans (hb2.mono hbw1.size)
  replace HTx := Lib.hid (HTx.out.below hb2 HTx.out.lt)
  replace hRx := hRx.below hb2
  clear hb2
  have c0x := HTx.out.cell 0
  have c1x := HTx.out.cell 1
  go_upto_region 3 with fail
  go_cut [5] (fun s5 wx => wx = w2 ∧ s5 = .int .i64 (F : Int))
  case first =>
    by_cases hi0 : i < 0
    · have := HF0.out hi0
      subst this
      have h0 := Lib.hid (show max i 0 % ((m : Int) + 1) = ((0 : Nat) : Int) by rw [show max i 0 = 0 from by omega]; simp)
      go_wp2_with fail
      go_meet
      exact ⟨rfl, congrArg (Value.int IntKind.i64) h0.out⟩
    · have h0 := Lib.hid (show max i 0 % ((m : Int) + 1) = (F : Int) by rw [show max i 0 = i from by omega]; exact HF1.out (Int.not_lt.1 hi0))
      go_wp2_with fail
      go_meet
      exact ⟨rfl, congrArg (Value.int IntKind.i64) h0.out⟩
  case rest =>
    obtain ⟨hwe, rfl⟩ := hcut; replace hwe := hwe.symm; subst hwe
    clear c0x c1x
    have c0x := HTx.out.cell 0
    have c1x := HTx.out.cell 1
    go_wp2_with fail
    refine (HCA.out _ _ 0 F rfl rfl (Nat.zero_le _) hFm _ hRx).mono ?_
    rintro e w3 ⟨A3, c3, B3, rfl, hp3, own3, hb3⟩
    clear c0x c1x
    have hl3 : (sub L 0 (F - 0)).length = F := by rw [sub_length (by rw [HM.out]; omega)]; omega
    rw [hl3]
    have hRp := Rd.of_own own3
    have hbw3 := hbw2.trans (hb3.mono hbw2.size)
    replace HTx := Lib.hid (HTx.out.below hb3 HTx.out.lt)
    replace hRx := hRx.below hb3
    replace HTx := Lib.hid (HTx.out.alloc (.cells #[.slice A3 B3.length c3, .int .i64 ((F : Nat) : Int)] 29))
    replace hRx := hRx.alloc (.cells #[.slice A3 B3.length c3, .int .i64 ((F : Nat) : Int)] 29)
    replace hRp := hRp.alloc (.cells #[.slice A3 B3.length c3, .int .i64 ((F : Nat) : Int)] 29)
    have HTp := Lib.hid (genBlk (w := w3) (t := 29) (cs := #[.slice A3 B3.length c3, .int .i64 ((F : Nat) : Int)]))
    have hbwz3 : Below w.heap.size w _ := hbw3.alloc hbw3.size (.cells #[.slice A3 B3.length c3, .int .i64 ((F : Nat) : Int)] 29)
    have HP3 := Lib.hid hp3
    have HL3 := Lib.hid hl3
    clear own3 hb3 hp3 hl3
    have c0x := HTx.out.cell 0
    have c1x := HTx.out.cell 1
    have c0p := HTp.out.cell 0
    have c1p := HTp.out.cell 1
    go_wp2_with fail
    refine (HCA.out _ _ F m rfl rfl hFm (Nat.le_refl _) _ hRx).mono ?_
    rintro e w4 ⟨A4, c4, B4, rfl, hp4, own4, hb4⟩
    clear c0x c1x c0p c1p
    have hl4 : (sub L F (m - F)).length = X := by rw [sub_length (by rw [HM.out]; omega), HX.out]
    rw [hl4]
    have hRq := Rd.of_own own4
    have hbw4 := hbwz3.trans (hb4.mono hbwz3.size)
    replace HTx := Lib.hid (HTx.out.below hb4 HTx.out.lt)
    replace hRx := hRx.below hb4
    replace HTp := Lib.hid (HTp.out.below hb4 HTp.out.lt)
    replace hRp := hRp.below hb4
    replace HTx := Lib.hid (HTx.out.alloc (.cells #[.slice A4 B4.length c4, .int .i64 ((X : Nat) : Int)] 29))
    replace hRx := hRx.alloc (.cells #[.slice A4 B4.length c4, .int .i64 ((X : Nat) : Int)] 29)
    replace HTp := Lib.hid (HTp.out.alloc (.cells #[.slice A4 B4.length c4, .int .i64 ((X : Nat) : Int)] 29))
    replace hRp := hRp.alloc (.cells #[.slice A4 B4.length c4, .int .i64 ((X : Nat) : Int)] 29)
    replace hRq := hRq.alloc (.cells #[.slice A4 B4.length c4, .int .i64 ((X : Nat) : Int)] 29)
    have HTq := Lib.hid (genBlk (w := w4) (t := 29) (cs := #[.slice A4 B4.length c4, .int .i64 ((X : Nat) : Int)]))
    have hbwz4 : Below w.heap.size w _ := hbw4.alloc hbw4.size (.cells #[.slice A4 B4.length c4, .int .i64 ((X : Nat) : Int)] 29)
    have HP4 := Lib.hid hp4
    have HL4 := Lib.hid hl4
    clear own4 hb4 hp4 hl4
    have hXm : X ≤ m := by have := HX.out; omega
    have HO1 := Lib.hid (fun wx h => of_len (A := A3) (c := c3) HP3.out HL3.out (by omega) HPA.out wx h)
    have HO2 := Lib.hid (fun wx h => of_len (A := A4) (c := c4) HP4.out HL4.out (by omega) HQA.out wx h)
    have HO3 := Lib.hid (fun wx h => more_len (A := A4) (c := c4) HPP.out HP4.out HL4.out (by omega) HMO.out wx h)
    have c0x := HTx.out.cell 0
    have c1x := HTx.out.cell 1
    have c0p := HTp.out.cell 0
    have c1p := HTp.out.cell 1
    have c0q := HTq.out.cell 0
    have c1q := HTq.out.cell 1
    go_wp2_with fail
    refine (HO1.out _ hRp).mono ?_
    rintro e w5 ⟨rfl, hb5⟩
    clear c0x c1x c0p c1p c0q c1q
    have hbw5 := hbwz4.trans (hb5.mono hbwz4.size)
    replace HTx := Lib.hid (HTx.out.below hb5 HTx.out.lt)
    replace hRx := hRx.below hb5
    replace HTp := Lib.hid (HTp.out.below hb5 HTp.out.lt)
    replace hRp := hRp.below hb5
    replace HTq := Lib.hid (HTq.out.below hb5 HTq.out.lt)
    replace hRq := hRq.below hb5
    clear hb5
    have c0x := HTx.out.cell 0
    have c1x := HTx.out.cell 1
    have c0p := HTp.out.cell 0
    have c1p := HTp.out.cell 1
    have c0q := HTq.out.cell 0
    have c1q := HTq.out.cell 1
    go_wp2_with fail
    refine (HO2.out _ hRq).mono ?_
    rintro e w6 ⟨rfl, hb6⟩
    clear c0x c1x c0p c1p c0q c1q
    have hbw6 := hbw5.trans (hb6.mono hbw5.size)
    replace HTx := Lib.hid (HTx.out.below hb6 HTx.out.lt)
    replace hRx := hRx.below hb6
    replace HTp := Lib.hid (HTp.out.below hb6 HTp.out.lt)
    replace hRp := hRp.below hb6
    replace HTq := Lib.hid (HTq.out.below hb6 HTq.out.lt)
    replace hRq := hRq.below hb6
    clear hb6
    have c0x := HTx.out.cell 0
    have c1x := HTx.out.cell 1
    have c0p := HTp.out.cell 0
    have c1p := HTp.out.cell 1
    have c0q := HTq.out.cell 0
    have c1q := HTq.out.cell 1
    go_wp2_with fail
    refine (HOX.out _ hRx).mono ?_
    rintro e w7 ⟨rfl, hb7⟩
    clear c0x c1x c0p c1p c0q c1q
    have hbw7 := hbw6.trans (hb7.mono hbw6.size)
    replace HTx := Lib.hid (HTx.out.below hb7 HTx.out.lt)
    replace hRx := hRx.below hb7
    replace HTp := Lib.hid (HTp.out.below hb7 HTp.out.lt)
    replace hRp := hRp.below hb7
    replace HTq := Lib.hid (HTq.out.below hb7 HTq.out.lt)
    replace hRq := hRq.below hb7
    clear hb7
    have c0x := HTx.out.cell 0
    have c1x := HTx.out.cell 1
    have c0p := HTp.out.cell 0
    have c1p := HTp.out.cell 1
    have c0q := HTq.out.cell 0
    have c1q := HTq.out.cell 1
    go_wp2_with fail
    refine (HO3.out _ hRq).mono ?_
    rintro e w8 ⟨rfl, hb8⟩
    clear c0x c1x c0p c1p c0q c1q
    have hbw8 := hbw7.trans (hb8.mono hbw7.size)
    replace HTx := Lib.hid (HTx.out.below hb8 HTx.out.lt)
    replace hRx := hRx.below hb8
    replace HTp := Lib.hid (HTp.out.below hb8 HTp.out.lt)
    replace hRp := hRp.below hb8
    replace HTq := Lib.hid (HTq.out.below hb8 HTq.out.lt)
    replace hRq := hRq.below hb8
    clear hb8
    have c0x := HTx.out.cell 0
    have c1x := HTx.out.cell 1
    have c0p := HTp.out.cell 0
    have c1p := HTp.out.cell 1
    have c0q := HTq.out.cell 0
    have c1q := HTq.out.cell 1
    go_wp2_with fail
    refine (HJ.out _).mono ?_
    rintro e w9 ⟨rfl, k9, rfl⟩
    clear c0x c1x c0p c1p c0q c1q
    go_wp2_with fail
    go_ret
    exact ⟨rfl, below_drewN hbw8 _⟩

set_option maxRecDepth 100000 in
theorem lifted_RollHalves (os : Os) (started : os.Started) (H : Type) (enc : TypeId × Value → H) :
    ReturnsInHanded {} Try.checked os 7 .any (Rows.rollHalvesSpec.pre6 enc Try.prog Try.f7 Rows.rollHalvesRow.domain false) (Rows.rollHalvesSpec.post enc Try.prog Try.f7 false true false false) := by
  refine returnsInHanded_of_change (C := Try.checked) own started (by kernel_rfl) Try.func7
    (ChangeSpec.witness6 (enc := enc) (C := Try.checked) false ⟨#[], #[.agg #[.slice none 0 0, .int .i64 0], .int .i64 0], []⟩ 8 (by kernel_rfl) (by kernel_rfl) (by kernel_rfl) (by kernel_rfl)) ?_
  intro W base args ds gs before hval0 hW hcnd _
  have hval : ∀ (j : Nat) t v, Try.f7.params[j]? = some t → args[j]? = some v → Value.okWide Try.prog W .any base t v := hval0
  have hW' := hW
  obtain ⟨p, q, hA0, hV, rfl, hfz, hnd⟩ := hW
  have hA : DataW.TrodAll enc Try.prog W 0 (fun _ => true) true Try.f7.params.toList args.toList ds p := hA0
  rw [Try.params7] at hA hval
  obtain ⟨v0, vs0, d0, ds0, p0, q0, hargs, rfl, rfl, h0, r0⟩ := trodAll_cons hA
  obtain ⟨v1, vs1, d1, ds1, p1, q1, rfl, rfl, rfl, h1, r1⟩ := trodAll_cons r0
  obtain ⟨rfl, rfl, rfl⟩ := trodAll_nil r1
  obtain rfl : args = #[v0, v1] := by cases args; simp_all
  obtain ⟨rfl, rfl⟩ := trodVars_none hV
  have k0 := h0
  have lt0 : ∀ x ∈ p0, x.block < W.heap.size := by obtain ⟨m, hm⟩ := k0; exact DataW.trod_lt m _ _ _ hm
  obtain ⟨A0, c0, B0, N0, rfl, rd0, by0, rg0⟩ := open_bits (hval 0 29 v0 rfl rfl) h0
  obtain ⟨a1, rfl, rfl, rfl, w1⟩ := open_int Try.underlying3 (hval 1 3 v1 rfl rfl) h1
  clear hA0 hval0
  refine (walk_RollHalves W A0 c0 B0 N0 rd0 by0 rg0 a1 (range_i64 w1)).mono fun e W' ⟨he, bel⟩ => ?_
  subst he
  exact ⟨_, rfl, _, _, _, [], _, [], hW', trodAll_mk1 (shut_bool Try.underlying4 _), (trodAll_cons_mk (Below.trod laidOut (by kernel_rfl) (of_decide_eq_true (by kernel_rfl)) k0 bel lt0) (trodAll_cons_mk (shut_int Try.underlying3 w1) trodAll_mk0)), rfl, bel.frame _, fun h => by cases h⟩

theorem over_RollHalves : Rows.rollHalvesRow.holds Try.pinned (OpenSpec.ofChange Rows.rollHalvesSpec) :=
  OpenClaim.holds_of_wide 7 Try.f7 rfl rfl rfl rfl rfl rfl rfl ⟨rfl, rfl, rfl, rfl, rfl⟩ rfl rfl rfl rfl rfl (by kernel_rfl) Try.func7 (by kernel_rfl)
    (of_decide_eq_true (by kernel_rfl)) (by unfold Func.isWrapper; first | (rw [if_pos (by decide +kernel)]; kernel_rfl) | (rw [if_neg (by decide +kernel)]; exact ⟨rfl, rfl⟩))
    (fun os started H enc _ => lifted_RollHalves os started H enc)

theorem rollHalves_holds : Rows.RollHalvesSaid := over_RollHalves

#print axioms rollHalves_holds
end Go.Proofs.Ytaphpejhppeopaa
