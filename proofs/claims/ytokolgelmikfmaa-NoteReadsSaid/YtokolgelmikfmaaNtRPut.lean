/-
  The reference's Put (a number behind bytes) and place.
-/
import Derived.Test.YtokolgelmikfmaaNtW
namespace Go.Proofs.Ytokolgelmikfmaa
open Go.RowKit Pl
set_option linter.unusedVariables false

/-- The call answers these bytes in a row of its own. -/
def RetPut (base : Nat) (B : List Int) (w : World) (e : Ending) (w' : World) : Prop :=
  ∃ A c, e = .returned (.slice A B.length c) ∧ w'.ownsRow base 5 1 (.slice A B.length c) B.length (u8s B) ∧ Below base w w' ∧ Keeps w w'

set_option maxRecDepth 100000 in
set_option maxHeartbeats 2000000 in
theorem rput_any (base : Nat) (A : Option Addr) (c : Nat) (B : List Int) (v W : Nat) (w : World) (hown : w.ownsRow base 5 1 (.slice A B.length c) B.length (u8s B)) (hv : U64 v) (hW : W ≤ 8) (hL : (B.length : Int) ≤ 1000000) (hbs : base ≤ w.heap.size) :
    Calls Try.prog 18 #[.slice A B.length c, .int .u64 v, .int .i64 W] w (RetPut base (B ++ be W v) w) := by
  obtain ⟨i0, hi, hz0, hz1, hz2⟩ := info_parts info_u8
  have hWI : (W : Int) ≤ 8 := by omega
  have HV := Lib.hid hv
  obtain ⟨n, hn⟩ : ∃ n, B.length = n := ⟨_, rfl⟩
  rw [hn] at hown hL ⊢
  have HN := Lib.hid hn
  have HO0 := Lib.hid hown
  clear hv hn hown
  go_enter Try.func18, Try.ntmps18
  go_wp2_with fail
  go_loopw [0, 7] (fun b i wr => ∃ (k : Nat) (z : Int) (D : List Int) (A' : Option Addr) (c' m : Nat), k ≤ W ∧ Hid (z = (k : Int) - 1) ∧ i = .int .i64 z ∧ b = .slice A' m c' ∧ Hid ((B ++ D).length = m) ∧ Hid (be W v = D ++ be k v) ∧ Hid (wr.ownsRow base 5 1 (.slice A' m c') m (u8s (B ++ D))) ∧ Below base w wr ∧ Hid (Keeps w wr)) (fun _ i _ => ((intOf i) + 1).toNat)
  case atStart => exact ⟨W, _, [], A, c, n, Nat.le_refl _, Lib.hid rfl, rfl, rfl, Lib.hid (by rw [List.append_nil]; exact HN.out), Lib.hid (by simp), Lib.hid (by rw [List.append_nil]; exact HO0.out), Below.refl _ _, Lib.hid (Keeps.refl _)⟩
  case round =>
    obtain ⟨wo, rfl⟩ : ∃ wo : World, wo = wr := ⟨_, rfl⟩
    obtain ⟨k, z, D, A', c', m, hk, HZ, rfl, rfl, HM, HD, HO, hbel, HK⟩ := hrel
    by_cases h0 : k = 0
    · have hz : z < 0 := by have := HZ.out; omega
      have hzd : decide (0 ≤ z) = false := by simp; omega
      go_wp2_with fail
      go_ret
      have e : be W v = D := by rw [HD.out, h0]; simp [be]
      refine ⟨A', c', ?_, ?_, hbel, HK.out⟩
      · rw [e, HM.out]; rfl
      · rw [e, HM.out]; exact HO.out
    · obtain ⟨j, rfl⟩ : ∃ j, k = j + 1 := ⟨k - 1, by omega⟩
      obtain rfl : z = (j : Int) := by have := HZ.out; omega
      have hDl : D.length ≤ 8 := by have := congrArg List.length HD.out; rw [be_length, List.length_append, be_length] at this; omega
      have hmI : (m : Int) ≤ 1000008 := by have h1 := HM.out; rw [List.length_append, HN.out] at h1; omega
      have hmx : m + 1 ≤ maxLen := by unfold maxLen; omega
      have hby : (m + 1) * 1 ≤ 140737488355328 := by omega
      have hj0 : (0 : Int) ≤ (j : Int) := by omega
      have hj8 : (j : Int) ≤ 8 := by omega
      have hjm : IntKind.i64.wrap (8 * (j : Int)) = 8 * (j : Int) := IntWalk.i64_in _ (by omega)
      have hj80 : (0 : Int) ≤ 8 * (j : Int) := by omega
      obtain ⟨x, hx⟩ : ∃ x, (v : Int) / 2 ^ (8 * j) % 256 = x := ⟨_, rfl⟩
      have hxb : x = ((v / 256 ^ j % 256 : Nat) : Int) := by
        rw [← hx]
        have := byte_at v j
        rwa [IntKind.wrap_u8] at this
      have HXB := Lib.hid hxb
      have hsz : base ≤ wo.heap.size := Nat.le_trans hbs hbel.size
      have hat : base ≤ (wo.alloc (.cells #[.int .u8 x] 5)).heap.size := by simp; omega
      have HAT := Lib.hid hat
      clear hxb h0 hat
      go_wp2_with (at_builtin; refine wpList_append_lies _ rfl _ _ 28 rfl base 5 i0 (.int .u8 0) 1 1 Try.underlying28 hi hz0 hz1 hz2 rfl (by decide) (.slice A' m c') m (u8s (B ++ D)) rfl (HO.out.alloc _) ⟨wo.heap.size, 0, none⟩ 1 1 [_] rfl rfl (World.news_of_block (heap_alloc_new wo _)) (by simp [Value.oneCell']) (by decide) hmx hby HAT.out (wo.heap.size + 1) (by simp) ?_; intro g cap w1 hown1 hgrow hat1 hlt1)
      go_roundw
      case rel =>
        have h1 : w1.ownsRow base 5 1 (.slice (some ⟨g, 0, none⟩) (m + 1) cap) (m + 1) (u8s (B ++ (D ++ [((v / 256 ^ j % 256 : Nat) : Int)]))) := by
          rw [← List.append_assoc, u8s_append, ← HXB.out]; exact hown1
        exact ⟨j, (j : Int) - 1, D ++ [((v / 256 ^ j % 256 : Nat) : Int)], _, cap, m + 1, by omega, Lib.hid rfl, rfl, rfl, Lib.hid (by rw [← List.append_assoc, List.length_append, HM.out]; rfl), Lib.hid (be_step HD.out), Lib.hid h1,
          (hbel.alloc hsz _).grown hgrow HAT.out (fun k hk => ((HO.out.lt k hk).1)), Lib.hid ((HK.out.alloc _).grown (HO.out.alloc _) hgrow)⟩
      case measure => simp [intOf]

set_option maxRecDepth 100000 in
set_option maxHeartbeats 2000000 in
theorem rplace_any (base : Nat) (A : Option Addr) (c : Nat) (B : List Int) (cc b m : Int) (hc : U32 cc) (hb : U32 b) (hm : U32 m) (w : World) (hown : w.ownsRow base 5 1 (.slice A B.length c) B.length (u8s B)) (hL : (B.length : Int) ≤ 100000) (hbs : base ≤ w.heap.size) :
    Calls Try.prog 19 #[.slice A B.length c, .agg #[.int .u32 cc, .int .u32 b, .int .u32 m]] w (RetPut base (B ++ (be 4 cc.toNat ++ (be 4 b.toNat ++ be 4 m.toNat))) w) := by
  obtain ⟨p, rfl⟩ : ∃ p : Nat, cc = (p : Int) := ⟨cc.toNat, by simp only [U32] at hc; omega⟩
  obtain ⟨q, rfl⟩ : ∃ p : Nat, b = (p : Int) := ⟨b.toNat, by simp only [U32] at hb; omega⟩
  obtain ⟨r, rfl⟩ : ∃ p : Nat, m = (p : Int) := ⟨m.toNat, by simp only [U32] at hm; omega⟩
  simp only [Int.toNat_natCast]
  have hp32 : (p : Int) < 4294967296 := hc.2
  have hq32 : (q : Int) < 4294967296 := hb.2
  have hr32 : (r : Int) < 4294967296 := hm.2
  have HP : Hid (U64 (p : Int)) := Lib.hid (by simp only [U64]; omega)
  have HQ : Hid (U64 (q : Int)) := Lib.hid (by simp only [U64]; omega)
  have HR : Hid (U64 (r : Int)) := Lib.hid (by simp only [U64]; omega)
  have PUT := fun (A : Option Addr) (c : Nat) (B : List Int) (v : Nat) (hv : U64 (v : Int)) (wx : World) ho hl hs => rput_any base A c B v 4 wx ho hv (by decide) hl hs
  have HPUT := Lib.hid PUT
  have hown0 := Lib.hid (hown.alloc (.cells #[.int .u32 p, .int .u32 q, .int .u32 r] 27))
  obtain ⟨n, hn⟩ : ∃ n, B.length = n := ⟨_, rfl⟩
  have HN := Lib.hid hn
  have HX := Lib.hid (Blk.new w 27 #[.int .u32 p, .int .u32 q, .int .u32 r])
  have hb0 := Lib.hid ((Below.refl base w).alloc hbs (.cells #[.int .u32 p, .int .u32 q, .int .u32 r] 27))
  have hk0 := Lib.hid ((Keeps.refl w).alloc (.cells #[.int .u32 p, .int .u32 q, .int .u32 r] 27))
  rw [hn] at hL ⊢
  unfold RetPut at HPUT
  clear hc hb hm PUT hown hn
  go_enter Try.func19, Try.ntmps19
  go_wp2_with fail
  rw [← HN.out]
  refine (HPUT.out _ _ _ _ HP.out _ hown0.out (by rw [HN.out]; omega) (Nat.le_trans hbs hb0.out.size)).mono ?_
  rintro e w1 ⟨A1, c1, rfl, hown1, hb1, hk1⟩
  have HX1 := Lib.hid (hk1 _ _ _ (by decide) (by decide) HX.out)
  have x0 := cells3 HX1.out
  obtain ⟨L1, hL1⟩ : ∃ L, B ++ be 4 p = L := ⟨_, rfl⟩
  have hl1 : L1.length = n + 4 := by rw [← hL1, List.length_append, be_length, HN.out]
  rw [hL1] at hown1 ⊢
  have HL1 := Lib.hid hL1
  have HLL1 := Lib.hid hl1
  have HO1 := Lib.hid hown1
  have HB1 := Lib.hid (hb0.out.trans hb1)
  have HK1 := Lib.hid (hk0.out.trans hk1)
  rw [hl1]
  clear hown1 hb1 hk1 hL1 hl1 HX hown0
  go_wp2_with fail
  rw [← HLL1.out]
  refine (HPUT.out _ _ _ _ HQ.out _ HO1.out (by rw [HLL1.out]; omega) (Nat.le_trans hbs HB1.out.size)).mono ?_
  rintro e w2 ⟨A2, c2, rfl, hown2, hb2, hk2⟩
  have HX2 := Lib.hid (hk2 _ _ _ (by decide) (by decide) HX1.out)
  clear x0
  have x0 := cells3 HX2.out
  obtain ⟨L2, hL2⟩ : ∃ L, L1 ++ be 4 q = L := ⟨_, rfl⟩
  have hl2 : L2.length = n + 4 + 4 := by rw [← hL2, List.length_append, be_length, HLL1.out]
  rw [hL2] at hown2 ⊢
  have HL2 := Lib.hid hL2
  have HLL2 := Lib.hid hl2
  have HO2 := Lib.hid hown2
  have HB2 := Lib.hid (HB1.out.trans hb2)
  have HK2 := Lib.hid (HK1.out.trans hk2)
  rw [hl2]
  clear hown2 hb2 hk2 hL2 hl2 HX1
  go_wp2_with fail
  rw [← HLL2.out]
  refine (HPUT.out _ _ _ _ HR.out _ HO2.out (by rw [HLL2.out]; omega) (Nat.le_trans hbs HB2.out.size)).mono ?_
  rintro e w3 ⟨A3, c3, rfl, hown3, hb3, hk3⟩
  obtain ⟨L3, hL3⟩ : ∃ L, L2 ++ be 4 r = L := ⟨_, rfl⟩
  have e3 : B ++ (be 4 p ++ (be 4 q ++ be 4 r)) = L3 := by rw [← hL3, ← HL2.out, ← HL1.out]; simp
  rw [hL3] at hown3 ⊢
  have HE3 := Lib.hid e3
  have HO3 := Lib.hid hown3
  have HK3 := Lib.hid (HK2.out.trans hk3)
  have HB3 := Lib.hid (HB2.out.trans hb3)
  clear hown3 hk3 hb3 hL3 e3 x0
  go_wp2_with fail
  go_ret
  rw [HE3.out]
  exact ⟨A3, c3, rfl, HO3.out, HB3.out, HK3.out⟩
end Go.Proofs.Ytokolgelmikfmaa
