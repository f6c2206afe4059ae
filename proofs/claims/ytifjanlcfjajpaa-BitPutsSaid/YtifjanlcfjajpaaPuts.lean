/-
  Rows.BitPutsSaid is proved: for every bits by value, every number and width the call returns true, and the bits read as they did. No condition.
-/
import Derived.Test.YtifjanlcfjajpaaBoth
namespace Go.Proofs.Ytifjanlcfjajpaa
open Go.ChangeShapes Go.WideShapes Go.ChangeAt Go.RowKit
open Pl
set_option linter.unusedVariables false

theorem own_cap {w : World} {base n c : Nat} {e : TypeId} {size : Nat} {A : Option Addr} {xs : List Value} (h : w.ownsRow base e size (.slice A n c) n xs) : n ≤ c := by
  obtain ⟨A', c', hv, hle⟩ := own_shape h
  have hc : c = c' := by injection hv
  omega

theorem Rd.front {w : World} {A : Option Addr} {B C : List Int} (h : Rd w A (B ++ C)) : Rd w A B := by
  by_cases hB : B = []
  · exact .inl hB
  · have hp : 0 < B.length := by cases B <;> simp_all
    obtain ⟨g, o, hA, hg, hc⟩ := h.at_ (by simp; omega)
    refine .inr ⟨g, o, hA, hg, fun i hi => ?_⟩
    rw [hc i (by simp; omega)]
    unfold nth
    rw [getD_append_left' _ _ _ hi]

theorem Blk.box {w : World} {t : TypeId} {cs : Array Value} : Blk (w.alloc (.cells cs t)) w.heap.size t cs := Blk.new w t cs

set_option maxRecDepth 100000 in
set_option maxHeartbeats 4000000 in
theorem walk_BitPuts (w : World) (A : Option Addr) (c : Nat) (B : List Int) (N : Int) (hr : Rd w A B) (hB : Byts B) (hN : -9223372036854775808 ≤ N ∧ N ≤ 9223372036854775807) (v : Int) (hv : U64 v) (W : Int) (hW : -9223372036854775808 ≤ W ∧ W ≤ 9223372036854775807) :
    Calls Try.prog 5 #[.agg #[.slice A B.length c, .int .i64 N], .int .u64 v, .int .i64 W] w fun e w' => e = .returned (.bool true) ∧ Below w.heap.size w w' := by
  obtain ⟨i0, hi, hz0, hz1, hzb⟩ := info_parts info_u8'
  by_cases hbig : (1500 : Int) < (B.length : Int)
  · have hd' : decide (1500 < B.length) = true := by simp; omega
    clear hN hB hr hW
    go_enter Try.func5, Try.ntmps5
    go_wp2_with fail
    refine (known_any _).mono ?_
    rintro e w1 ⟨rfl, hb1⟩
    go_wp2_with fail
    go_ret
    exact ⟨rfl, ((Below.refl _ _).alloc (Nat.le_refl _) _).trans (hb1.mono (by simp))⟩
  · have hd' : decide (1500 < B.length) = false := by simp; omega
    obtain ⟨B', N', x, hB', hx, PP, RP⟩ := put_both B N v W hB hN hv (by omega)
    have PPH := Lib.hid PP
    have RPH := Lib.hid RP
    clear PP RP
    have HBB := Lib.hid hB
    have HBB' := Lib.hid hB'
    have hx0 := hx.1
    have hx1 := hx.2
    have hxx : (x == x) = true := beq_self_eq_true x
    obtain ⟨n, hn⟩ : ∃ n, B.length = n := ⟨_, rfl⟩
    have HN := Lib.hid hn
    have hl : n ≤ 1500 := by omega
    have HL := Lib.hid (fun wx (h : Rd wx A B) => by
      have := lent_any A c B N wx h (by omega)
      rwa [hn] at this)
    rw [hn] at hd' PPH RPH
    rw [hn]
    have hmx : n + 1 ≤ maxLen := by unfold maxLen; omega
    have hby : (n + 1) * 1 ≤ 140737488355328 := by omega
    clear hB hN hW hx hB' hbig hn
    go_enter Try.func5, Try.ntmps5
    go_wp2_with fail
    refine (known_any _).mono ?_
    rintro e w1 ⟨rfl, hb1⟩
    have hbw1 : Below w.heap.size w w1 := ((Below.refl _ _).alloc (Nat.le_refl _) _).trans (hb1.mono (by simp))
    have HT3 := Lib.hid (Blk.box.below hb1 (by simp) : Blk w1 w.heap.size 24 #[.slice A n c, .int .i64 N])
    have t30 := HT3.out.cell 0
    have t31 := HT3.out.cell 1
    clear hb1
    go_wp2_with fail
    refine (HL.out _ (hr.below hbw1)).mono ?_
    rintro e w2 ⟨A2, c2, rfl, hown2, hb2⟩
    rw [HN.out] at hown2 ⊢
    have hz2 := HT3.out.lt
    have HT3b := Lib.hid (HT3.out.below hb2 hz2)
    clear t30 t31
    have t30 := HT3b.out.cell 0
    have t31 := HT3b.out.cell 1
    have hbw2 : Below w.heap.size w w2 := hbw1.trans (hb2.mono hbw1.size)
    have hown2' := own_base hown2 hbw1.size
    have hsz2 := hbw2.size
    have hne : ¬ w.heap.size = w2.heap.size := by have := hb2.size; omega
    have hne' : ¬ w2.heap.size = w.heap.size := by have := hb2.size; omega
    go_wp2_with (at_builtin; (refine wpList_append_lies _ rfl _ _ 22 rfl w1.heap.size 5 i0 (.int .u8 0) 1 1 Try.underlying22 hi hz0 hz1 hzb rfl (by decide) (.slice A2 n c2) n (u8s B) rfl ((hown2.alloc _).alloc _) ⟨w2.heap.size + 1, 0, none⟩ 1 1 [.int .u8 119] rfl rfl (World.news_of_block (heap_new_at (w2.alloc _) _ _ (by simp))) (by simp [Value.oneCell']) (by decide) hmx hby (by have := hb2.size; simp; omega) (w2.heap.size + 2) (by simp) ?_; intro g cap w3 hown3 hgrow hat hlt3; have hT7 : Blk w3 w2.heap.size 24 #[.slice A2 n c2, .int .i64 N] := (Blk.box.alloc _).grown hgrow (fun e => by have := hown2.lt _ e.symm; omega); have t70 := hT7.cell 0; have t71 := hT7.cell 1; have f70 := hT7.frozen; have hT33 := ((HT3b.out.alloc _).alloc _).grown hgrow (fun e => by have := hown2.lt _ e.symm; omega); have hcap := own_cap hown3; have hcap2 : n ≤ cap := (by omega); have t330 := hT33.cell 0; have t331 := hT33.cell 1))
    have hg7 : ¬ w2.heap.size = g := fun e => own_blk_ne hown3 hT7 (by decide) (by simp [Value.ownBlock, e])
    have hf7 : (.slice (some ⟨g, 0, none⟩) (n + 1) cap : Value).ownBlock ≠ some w2.heap.size := own_blk_ne hown3 hT7 (by decide)
    have own4 := own_far (p := ⟨w2.heap.size, 0, none⟩) (own_far (p := ⟨w2.heap.size, 0, none⟩) hown3 hf7 (.slice (some ⟨g, 0, none⟩) (n + 1) cap)) hf7 (.slice (some ⟨g, 0, none⟩) n cap)
    have T7 := (hT7.set_ 0 (.slice (some ⟨g, 0, none⟩) (n + 1) cap)).set_ 0 (.slice (some ⟨g, 0, none⟩) n cap)
    have T3 := (hT33.far (p := ⟨w2.heap.size, 0, none⟩) hne (.slice (some ⟨g, 0, none⟩) (n + 1) cap)).far (p := ⟨w2.heap.size, 0, none⟩) hne (.slice (some ⟨g, 0, none⟩) n cap)
    have hb3 : Below w.heap.size w w3 := (((hbw2.alloc hsz2 _).alloc (by simp; omega) _).grown hgrow (by simp; omega) (fun k hk => by have := hown2.lt _ hk; have := hbw1.size; omega))
    have hbw4 := (hb3.setCell (p := ⟨w2.heap.size, 0, none⟩) hsz2 (.slice (some ⟨g, 0, none⟩) (n + 1) cap)).setCell (p := ⟨w2.heap.size, 0, none⟩) hsz2 (.slice (some ⟨g, 0, none⟩) n cap)
    have hR4 : Rd _ (some ⟨g, 0, none⟩) (B ++ [119]) := Rd.of_own (n := n + 1) (c := cap) (by rw [u8s_append]; exact own4)
    have hz7 : w2.heap.size < w3.heap.size := hT7.lt
    clear hgrow hown3 hT7 hT33 t70 t71 f70 t330 t331 own4 hf7 hb3
    refine (PPH.out _ _ _ (hR4.front)).mono ?_
    rintro e w5 ⟨A5, c5, rfl, own5, hb5⟩
    have T7 := T7.below hb5 (by simp; exact hz7)
    have T3 := T3.below hb5 (by simp; omega)
    have hR5 := hR4.below hb5
    have hbw5 : Below w.heap.size w w5 := hbw4.trans (hb5.mono hbw4.size)
    have HT7 := Lib.hid T7
    have HT3c := Lib.hid T3
    have q0 := T7.cell 0
    have q1 := T7.cell 1
    have q2 := T3.cell 0
    have q3 := T3.cell 1
    have hR5q := Rd.of_own own5
    have hl3 : w.heap.size < w5.heap.size := HT3c.out.lt
    have hl7 : w2.heap.size < w5.heap.size := HT7.out.lt
    clear T7 T3 hR4 hbw4 hb5 own5
    go_wp2_with fail
    refine (RPH.out _ _ _ ((hr.below hbw5).alloc _)).mono ?_
    rintro e w6 ⟨A6, c6, rfl, own6, hb6⟩
    have T8 := (Blk.box (w := w5) (t := 24) (cs := #[.slice A5 B'.length c5, .int .i64 N'])).below hb6 (by simp)
    have T7 := (HT7.out.alloc (.cells #[.slice A5 B'.length c5, .int .i64 N'] 24)).below hb6 (by simp; omega)
    have T3 := (HT3c.out.alloc (.cells #[.slice A5 B'.length c5, .int .i64 N'] 24)).below hb6 (by simp; omega)
    have hR6 := (hR5.alloc (.cells #[.slice A5 B'.length c5, .int .i64 N'] 24)).below hb6
    have hR6q := (hR5q.alloc (.cells #[.slice A5 B'.length c5, .int .i64 N'] 24)).below hb6
    have hbw6 : Below w.heap.size w w6 := (hbw5.alloc (by omega) _).trans (hb6.mono (by simp; omega))
    have hR6p := Rd.of_own own6
    have HT8 := Lib.hid T8
    have HT7d := Lib.hid T7
    have HT3d := Lib.hid T3
    have p0 := T7.cell 0
    have p1 := T7.cell 1
    have p2 := T3.cell 0
    have p3 := T3.cell 1
    have p4 := T8.cell 0
    have p5 := T8.cell 1
    have hm3 : w.heap.size < w6.heap.size := T3.lt
    have hm7 : w2.heap.size < w6.heap.size := T7.lt
    have hm8 : w5.heap.size < w6.heap.size := T8.lt
    have hcapn : n + 1 ≤ cap := hcap
    have SA := Lib.hid (fun wx (h1 : Rd wx A5 B') (h2 : Rd wx A6 B') => same_any A5 A6 c5 c6 B' B' N' N' wx h1 h2 HBB'.out HBB'.out)
    have SB := Lib.hid (fun wx (h1 : Rd wx (some ⟨g, 0, none⟩) B) (h2 : Rd wx A B) => by
      have := same_any (some ⟨g, 0, none⟩) A cap c B B N N wx h1 h2 HBB.out HBB.out
      rwa [HN.out] at this)
    clear T7 T3 T8 hb6 own6 q0 q1 q2 q3 hl3 hl7 hR5 hR5q
    go_wp2_with fail
    refine (SA.out _ (hR6q.alloc _) (hR6p.alloc _)).mono ?_
    rintro e w7 ⟨rfl, hb7⟩
    have T7 := (HT7d.out.alloc (.cells #[.slice A6 B'.length c6, .int .i64 N'] 24)).below hb7 (by simp; omega)
    have T3 := (HT3d.out.alloc (.cells #[.slice A6 B'.length c6, .int .i64 N'] 24)).below hb7 (by simp; omega)
    have hR7 := (hR6.alloc (.cells #[.slice A6 B'.length c6, .int .i64 N'] 24)).below hb7
    have hbw7 : Below w.heap.size w w7 := (hbw6.alloc (by omega) _).trans (hb7.mono (by simp; omega))
    have HT3e := Lib.hid T3
    have r0 := T7.cell 0
    have r1 := T7.cell 1
    have r2 := T3.cell 0
    have r3 := T3.cell 1
    have hn3 : w.heap.size < w7.heap.size := T3.lt
    clear T7 T3 hb7 p0 p1 p2 p3 p4 p5 hR6 hR6q hR6p
    go_wp2_with fail
    refine (SB.out _ hR7.front (hr.below hbw7)).mono ?_
    rintro e w8 ⟨rfl, hb8⟩
    have T3 := HT3e.out.below hb8 hn3
    have s2 := T3.cell 0
    have hR8 := hR7.below hb8
    have hbw8 : Below w.heap.size w w8 := hbw7.trans (hb8.mono hbw7.size)
    have hlast : w8.cell? ⟨g, n, none⟩ = some (.int .u8 119) := by
      obtain ⟨g', o', hA', _, hcc⟩ := hR8.at_ (by simp)
      have e1 : g = g' ∧ 0 = o' := by simpa using hA'
      obtain ⟨rfl, rfl⟩ := e1
      have := hcc n (by simp [HN.out])
      rw [Nat.zero_add] at this
      rw [this]
      unfold nth
      rw [getD_append_right' _ _ _ (by rw [HN.out]; exact Nat.le_refl _), HN.out, Nat.sub_self]
      rfl
    clear T3 hb8 r0 r1 r2 r3 hR7 hR8
    go_wp2_with fail
    go_ret
    exact ⟨rfl, hbw8⟩

set_option maxRecDepth 100000 in
theorem lifted_BitPuts (os : Os) (started : os.Started) (H : Type) (enc : TypeId × Value → H) :
    ReturnsInHanded {} Try.checked os 5 .any (Rows.bitPutsSpec.pre6 enc Try.prog Try.f5 Rows.bitPutsRow.domain false) (Rows.bitPutsSpec.post enc Try.prog Try.f5 false true false false) := by
  refine returnsInHanded_of_change (C := Try.checked) own started (by kernel_rfl) Try.func5
    (ChangeSpec.witness6 (enc := enc) (C := Try.checked) false ⟨#[], #[.agg #[.slice none 0 0, .int .i64 0], .int .u64 0, .int .i64 0], []⟩ 8 (by kernel_rfl) (by kernel_rfl) (by kernel_rfl) (by kernel_rfl)) ?_
  intro W base args ds gs before hval0 hW hcnd _
  have hval : ∀ (j : Nat) t v, Try.f5.params[j]? = some t → args[j]? = some v → Value.okWide Try.prog W .any base t v := hval0
  have hW' := hW
  obtain ⟨p, q, hA0, hV, rfl, hfz, hnd⟩ := hW
  have hA : DataW.TrodAll enc Try.prog W 0 (fun _ => true) true Try.f5.params.toList args.toList ds p := hA0
  rw [Try.params5] at hA hval
  obtain ⟨v0, vs0, d0, ds0, p0, q0, hargs, rfl, rfl, h0, r0⟩ := trodAll_cons hA
  obtain ⟨v1, vs1, d1, ds1, p1, q1, rfl, rfl, rfl, h1, r1⟩ := trodAll_cons r0
  obtain ⟨v2, vs2, d2, ds2, p2, q2, rfl, rfl, rfl, h2, r2⟩ := trodAll_cons r1
  obtain ⟨rfl, rfl, rfl⟩ := trodAll_nil r2
  obtain rfl : args = #[v0, v1, v2] := by cases args; simp_all
  obtain ⟨rfl, rfl⟩ := trodVars_none hV
  have k0 := h0
  have lt0 : ∀ x ∈ p0, x.block < W.heap.size := by obtain ⟨m, hm⟩ := k0; exact DataW.trod_lt m _ _ _ hm
  obtain ⟨A0, c0, B0, N0, rfl, rd0, by0, rg0⟩ := open_bits (hval 0 24 v0 rfl rfl) h0
  obtain ⟨a1, rfl, rfl, rfl, w1⟩ := open_int Try.underlying25 (hval 1 25 v1 rfl rfl) h1
  obtain ⟨a2, rfl, rfl, rfl, w2⟩ := open_int Try.underlying3 (hval 2 3 v2 rfl rfl) h2
  clear hA0 hval0
  refine (walk_BitPuts W A0 c0 B0 N0 rd0 by0 rg0 a1 (range_u64 w1) a2 (range_i64 w2)).mono fun e W' ⟨he, bel⟩ => ?_
  subst he
  exact ⟨_, rfl, _, _, _, [], _, [], hW', trodAll_mk1 (shut_bool Try.underlying4 _), (trodAll_cons_mk (Below.trod laidOut (by kernel_rfl) (of_decide_eq_true (by kernel_rfl)) k0 bel lt0) (trodAll_cons_mk (shut_int Try.underlying25 w1) (trodAll_cons_mk (shut_int Try.underlying3 w2) trodAll_mk0))), rfl, bel.frame _, fun h => by cases h⟩

theorem over_BitPuts : Rows.bitPutsRow.holds Try.pinned (OpenSpec.ofChange Rows.bitPutsSpec) :=
  OpenClaim.holds_of_wide 5 Try.f5 rfl rfl rfl rfl rfl rfl rfl ⟨rfl, rfl, rfl, rfl, rfl⟩ rfl rfl rfl rfl rfl (by kernel_rfl) Try.func5 (by kernel_rfl)
    (of_decide_eq_true (by kernel_rfl)) (by unfold Func.isWrapper; first | (rw [if_pos (by decide +kernel)]; kernel_rfl) | (rw [if_neg (by decide +kernel)]; exact ⟨rfl, rfl⟩))
    (fun os started H enc _ => lifted_BitPuts os started H enc)

theorem bitPuts_holds : Rows.BitPutsSaid := over_BitPuts

#print axioms bitPuts_holds
end Go.Proofs.Ytifjanlcfjajpaa
