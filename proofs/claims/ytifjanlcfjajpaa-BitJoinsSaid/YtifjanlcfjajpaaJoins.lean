/-
  Rows.BitJoinsSaid is proved: for every list of bits the call returns true, and the list reads as it did. No condition.
-/
import Derived.Test.YtifjanlcfjajpaaBoth
import Derived.Test.YtifjanlcfjajpaaOpen2
namespace Go.Proofs.Ytifjanlcfjajpaa
open Go.ChangeShapes Go.WideShapes Go.ChangeAt Go.RowKit
open Pl
set_option linter.unusedVariables false

theorem boxBlk' {w : World} {t : TypeId} {cs : Array Value} : Blk (w.alloc (.cells cs t)) w.heap.size t cs := Blk.new w t cs

set_option maxRecDepth 100000 in
set_option maxHeartbeats 4000000 in
theorem walk_BitJoins (w : World) (A : Option Addr) (c : Nat) (l : List BitV) (hr : RdBits w A l) (hf : ∀ x ∈ l, BitV.Fine x) (hm : l.length ≤ maxLen) :
    Calls Try.prog 9 #[.slice A l.length c] w fun e w' => e = .returned (.bool true) ∧ Below w.heap.size w w' := by
  obtain ⟨n, hn⟩ : ∃ n, l.length = n := ⟨_, rfl⟩
  by_cases hbig : 20 < n
  · have hd' : decide (20 < n) = true := by simp; omega
    rw [hn]
    clear hr hf hm hn
    go_enter Try.func9, Try.ntmps9
    go_wp2_with fail
    refine (known_any _).mono ?_
    rintro e w1 ⟨rfl, hb1⟩
    go_wp2_with fail
    go_ret
    exact ⟨rfl, hb1⟩
  · have hd' : decide (20 < n) = false := by simp; omega
    have hn20 : (n : Int) ≤ 20 := by omega
    have HN := Lib.hid hn
    have HF := Lib.hid hf
    rw [hn]
    clear hf hm hn hbig
    go_enter Try.func9, Try.ntmps9
    go_wp2_with fail
    refine (known_any _).mono ?_
    rintro e w1 ⟨rfl, hb1⟩
    have hr1 := hr.keep hb1
    go_wp2_with fail
    go_loop [3] (fun i => ∃ k : Nat, k ≤ n ∧ i = .int .i64 k ∧ ∀ x ∈ l.take k, x.B.length ≤ 200) (fun i => n - (intOf i).toNat)
    case atStart => exact ⟨0, Nat.zero_le _, rfl, fun x hx => by simp at hx⟩
    case round =>
      obtain ⟨k, hk, rfl, hsm⟩ := hrel
      have hk' : (k : Int) ≤ n := by omega
      have HS := Lib.hid hsm
      clear hsm
      by_cases h0 : k = n
      · subst h0
        have hall : ∀ x ∈ l, BitV.Ok x := fun x hx => by
          have h2 := HS.out x (by rw [List.take_of_length_le (by rw [HN.out]; exact Nat.le_refl _)]; exact hx)
          have h3 := HF.out x hx
          exact ⟨h3.1, h3.2, by omega⟩
        obtain ⟨B', N', x, hB', hx, PP, RP⟩ := join_both l (by have := HN.out; omega) hall
        have PPH := Lib.hid (fun wx A c h => by have := PP wx A c h; rwa [HN.out] at this)
        have RPH := Lib.hid (fun wx A c h => by have := RP wx A c h; rwa [HN.out] at this)
        have HBB' := Lib.hid hB'
        have hx0 := hx.1
        have hx1 := hx.2
        have hxx : (x == x) = true := beq_self_eq_true x
        clear PP RP hB' hx hall
        go_wp2_with fail
        refine (PPH.out _ _ _ hr1).mono ?_
        rintro e w2 ⟨A2, c2, rfl, own2, hb2⟩
        have HT4 := Lib.hid (boxBlk' (w := w2) (t := 24) (cs := #[.slice A2 B'.length c2, .int .i64 N']))
        have hR2 := Rd.of_own own2
        have hr2 := hr1.keep hb2
        have hbw2 : Below w.heap.size w w2 := hb1.trans (hb2.mono hb1.size)
        clear own2 hb2 hr1 hr
        go_wp2_with fail
        refine (RPH.out _ _ _ (hr2.keep ((Below.refl _ _).alloc (Nat.le_refl _) _))).mono ?_
        rintro e w3 ⟨A3, c3, rfl, own3, hb3⟩
        have HT4b := Lib.hid ((HT4.out.below hb3 (by simp)).alloc (.cells #[.slice A3 B'.length c3, .int .i64 N'] 24))
        have HT6 := Lib.hid (boxBlk' (w := w3) (t := 24) (cs := #[.slice A3 B'.length c3, .int .i64 N']))
        have hR3 := (hR2.alloc (.cells #[.slice A2 B'.length c2, .int .i64 N'] 24)).below hb3
        have hR3q := Rd.of_own own3
        have hbw3 : Below w.heap.size w w3 := (hbw2.alloc hbw2.size _).trans (hb3.mono (by have := hbw2.size; simp; omega))
        have SA := Lib.hid (fun wx (h1 : Rd wx A2 B') (h2 : Rd wx A3 B') => same_any A2 A3 c2 c3 B' B' N' N' wx h1 h2 HBB'.out HBB'.out)
        clear own3 hb3 HT4 hr2 hR2
        have t40 := HT4b.out.cell 0
        have t41 := HT4b.out.cell 1
        have t60 := HT6.out.cell 0
        have t61 := HT6.out.cell 1
        go_wp2_with fail
        refine (SA.out _ (hR3.alloc _) (hR3q.alloc _)).mono ?_
        rintro e w4 ⟨rfl, hb4⟩
        go_wp2_with fail
        go_ret
        exact ⟨rfl, (hbw3.alloc hbw3.size _).trans (hb4.mono (by have := hbw3.size; simp; omega))⟩
      · have h1 : decide (k < n) = true := by simp; omega
        have hkn : k < n := by omega
        have hkl : k < l.length := by have := HN.out; omega
        obtain ⟨x, hx⟩ : ∃ x, l[k]? = some x := ⟨_, List.getElem?_eq_getElem hkl⟩
        rcases hr1 with rfl | ⟨g, o, rfl, hg, hcs⟩
        · simp at hkl
        obtain ⟨f0, f1, erd0⟩ := hcs k x hx
        have HX := Lib.hid hx
        obtain ⟨q, hq⟩ : ∃ q, x.B.length = q := ⟨_, rfl⟩
        have HQ := Lib.hid hq
        rw [hq] at f0
        clear hcs hx hq h0 hkl
        by_cases h2 : 200 < q
        · have hd2 : decide (200 < q) = true := by simp; omega
          go_wp2_with fail
          go_ret
          exact ⟨rfl, hb1⟩
        · have hd2 : decide (200 < q) = false := by simp; omega
          go_wp2_with fail
          go_round
          case rel =>
            refine ⟨k + 1, by omega, by go_num, fun y hy => ?_⟩
            rw [List.take_add_one, HX.out] at hy
            rcases List.mem_append.1 hy with hy | hy
            · exact HS.out y hy
            · simp at hy; subst hy; have := HQ.out; omega
          case measure => simp [intOf]; omega

set_option maxRecDepth 100000 in
theorem lifted_BitJoins (os : Os) (started : os.Started) (H : Type) (enc : TypeId × Value → H) :
    ReturnsInHanded {} Try.checked os 9 .any (Rows.bitJoinsSpec.pre6 enc Try.prog Try.f9 Rows.bitJoinsRow.domain false) (Rows.bitJoinsSpec.post enc Try.prog Try.f9 false true false false) := by
  refine returnsInHanded_of_change (C := Try.checked) own started (by kernel_rfl) Try.func9
    (ChangeSpec.witness6 (enc := enc) (C := Try.checked) false ⟨#[], #[.slice none 0 0], []⟩ 8 (by kernel_rfl) (by kernel_rfl) (by kernel_rfl) (by kernel_rfl)) ?_
  intro W base args ds gs before hval0 hW hcnd _
  have hval : ∀ (j : Nat) t v, Try.f9.params[j]? = some t → args[j]? = some v → Value.okWide Try.prog W .any base t v := hval0
  have hW' := hW
  obtain ⟨p, q, hA0, hV, rfl, hfz, hnd⟩ := hW
  have hA : DataW.TrodAll enc Try.prog W 0 (fun _ => true) true Try.f9.params.toList args.toList ds p := hA0
  rw [Try.params9] at hA hval
  obtain ⟨v0, vs0, d0, ds0, p0, q0, hargs, rfl, rfl, h0, r0⟩ := trodAll_cons hA
  obtain ⟨rfl, rfl, rfl⟩ := trodAll_nil r0
  obtain rfl : args = #[v0] := by cases args; simp_all
  obtain ⟨rfl, rfl⟩ := trodVars_none hV
  have k0 := h0
  have lt0 : ∀ x ∈ p0, x.block < W.heap.size := by obtain ⟨m, hm⟩ := k0; exact DataW.trod_lt m _ _ _ hm
  obtain ⟨A0, c0, l0, rfl, rd0, fi0, le0⟩ := open_bitslist (hval 0 46 v0 rfl rfl) h0
  clear hA0 hval0
  refine (walk_BitJoins W A0 c0 l0 rd0 fi0 le0).mono fun e W' ⟨he, bel⟩ => ?_
  subst he
  exact ⟨_, rfl, _, _, _, [], _, [], hW', trodAll_mk1 (shut_bool Try.underlying4 _), (trodAll_cons_mk (Below.trod laidOut (by kernel_rfl) (of_decide_eq_true (by kernel_rfl)) k0 bel lt0) trodAll_mk0), rfl, bel.frame _, fun h => by cases h⟩

theorem over_BitJoins : Rows.bitJoinsRow.holds Try.pinned (OpenSpec.ofChange Rows.bitJoinsSpec) :=
  OpenClaim.holds_of_wide 9 Try.f9 rfl rfl rfl rfl rfl rfl rfl ⟨rfl, rfl, rfl, rfl, rfl⟩ rfl rfl rfl rfl rfl (by kernel_rfl) Try.func9 (by kernel_rfl)
    (of_decide_eq_true (by kernel_rfl)) (by unfold Func.isWrapper; first | (rw [if_pos (by decide +kernel)]; kernel_rfl) | (rw [if_neg (by decide +kernel)]; exact ⟨rfl, rfl⟩))
    (fun os started H enc _ => lifted_BitJoins os started H enc)

theorem bitJoins_holds : Rows.BitJoinsSaid := over_BitJoins

#print axioms bitJoins_holds
end Go.Proofs.Ytifjanlcfjajpaa
