/-
  Rows.ZigBackSaid is proved: numbers that are put one behind the other are got so; at the end nothing is. No condition.
-/
import Derived.Test.YteemncpmcfflmaaZgOpen
namespace Go.Proofs.Yteemncpmcfflmaa
open Go.ChangeShapes Go.WideShapes Go.ChangeAt Go.RowKit
open Pl
set_option linter.unusedVariables false

/-- How many bits the first numbers take. -/
def cl (l : List Int) (k : Nat) : Nat := (codes (l.take k)).length
theorem cl_zero (l : List Int) : cl l 0 = 0 := by simp [cl, codes]
theorem cl_all (l : List Int) : cl l l.length = (codes l).length := by simp [cl]
theorem cl_step {l : List Int} {k : Nat} {x : Int} (hx : l[k]? = some x) : cl l (k + 1) = cl l k + (code x).length := by
  rw [cl, cl, take_snoc' hx, codes_snoc, List.length_append]
theorem cl_lt {l : List Int} {k : Nat} {x : Int} (hx : l[k]? = some x) : cl l k < cl l (k + 1) := by rw [cl_step hx]; have := code_pos x; omega
theorem cl_le (l : List Int) (k : Nat) : cl l k ≤ k * 69 := by
  have h := codes_len (l.take k)
  have h2 : (l.take k).length ≤ k := List.length_take_le _ _
  unfold cl; omega
theorem cl_top (l : List Int) (k : Nat) : cl l k ≤ (codes l).length := by
  have h : codes l = codes (l.take k) ++ codes (l.drop k) := by rw [← codes_append, List.take_append_drop]
  rw [h, List.length_append]; unfold cl; omega

theorem get_kth {l : List Int} (hok : ∀ x ∈ l, I64 x) {B : List Int} (hp : Packs B (codes l)) (hl : (B.length : Int) ≤ 900000) {k : Nat} {x : Int} (hx : l[k]? = some x) (A : Option Addr) (c : Nat) (wx : World) (h : Rd wx A B) :
    Calls Try.prog 18 #[.agg #[.slice A B.length c, .int .i64 ((codes l).length : Int)], .int .i64 (cl l k : Int)] wx (RetZ .u16 x (cl l (k + 1) : Nat) 0 wx) := by
  have hL : codes l = codes (l.take k) ++ code x ++ codes (l.drop (k + 1)) := by
    rw [← codes_snoc, ← take_snoc' hx, ← codes_append, List.take_append_drop]
  have hr := code_read (hok x (List.mem_of_getElem? hx)) (codes (l.take k)) (codes (l.drop (k + 1))) hL
  have hg := zget_at A c B (codes l) (cl l k) wx h hp hl (cl_top l k)
  refine hg.mono fun e w' hh => ?_
  have h3 := hh.2.2 hr.1 hr.2.1
  rw [cl_step hx]
  have e1 := hr.2.2.1
  have e2 := hr.2.2.2
  change unfold (zgN (codes l) (cl l k)) = x at e1
  change whQ (codes l) (cl l k) + wid (whK (codes l) (cl l k)) = cl l k + (code x).length at e2
  rw [e1, e2] at h3
  exact h3
theorem get_end {l : List Int} {B : List Int} (hp : Packs B (codes l)) (hl : (B.length : Int) ≤ 900000) (A : Option Addr) (c : Nat) (wx : World) (h : Rd wx A B) :
    Calls Try.prog 18 #[.agg #[.slice A B.length c, .int .i64 ((codes l).length : Int)], .int .i64 ((codes l).length : Int)] wx (RetZ .u16 0 0 10 wx) := by
  refine (zget_at A c B (codes l) (codes l).length wx h hp hl (Nat.le_refl _)).mono fun e w' hh => hh.1 ?_
  left
  have h0 : whK (codes l) (codes l).length = 0 := by simp [whK, lead]
  unfold WhE
  rw [h0]
  omega

set_option maxRecDepth 100000 in
set_option maxHeartbeats 2000000 in
theorem walk_ZigBack (w : World) (A : Option Addr) (c : Nat) (l : List Int) (rl : RdI w A l) (ol : ∀ x ∈ l, I64 x) (ll : l.length ≤ maxLen) :
    Calls Try.prog 7 #[.slice A l.length c] w fun e w' => e = .returned (.bool true) ∧ Below w.heap.size w w' := by
  clear ll
  by_cases h1 : 40 < l.length
  · have hd : decide (40 < l.length) = true := by simp; omega
    have hdI : ¬ (l.length : Int) ≤ 40 := by omega
    obtain ⟨n, hn⟩ : ∃ n, l.length = n := ⟨_, rfl⟩
    rw [hn] at hd hdI ⊢
    clear hn
    clear rl ol h1
    go_enter Try.func7, Try.ntmps7
    go_wp2_with fail
    refine (known_any _).mono ?_
    rintro e w1 ⟨rfl, hb1⟩
    go_wp2_with fail
    go_ret
    exact ⟨rfl, hb1⟩
  have hd : decide (40 < l.length) = false := by simp; omega
  have ROW := fun wx h => row_any A c l wx h (by omega) ol
  have GK := fun B (hp : Packs B (codes l)) hl k x hx A c wx h => get_kth ol hp hl (k := k) (x := x) hx A c wx h
  have GE := fun B (hp : Packs B (codes l)) hl A c wx h => get_end hp hl A c wx h
  have GET : ∀ k, k < l.length → ∃ x, l[k]? = some x := fun k h => ⟨_, List.getElem?_eq_getElem h⟩
  have CA := cl_all l
  have CB := codes_len l
  have hC0 := cl_zero l
  obtain ⟨n, hn⟩ : ∃ n, l.length = n := ⟨_, rfl⟩
  rw [hn] at hd h1 ROW GET CA CB ⊢
  have hn40 : (n : Int) ≤ 40 := by omega
  have hC2 : (codes l).length ≤ 2760 := by omega
  obtain ⟨L, hL⟩ : ∃ L, codes l = L := ⟨_, rfl⟩
  rw [hL] at ROW GK GE CA hC2
  have HN := Lib.hid hn
  have HR := Lib.hid ROW
  have HGK := Lib.hid GK
  have HGE := Lib.hid GE
  have HGET := Lib.hid GET
  have HCA := Lib.hid CA
  have HC0 := Lib.hid hC0
  clear ol ROW GK GE GET CA CB hn hL h1 hC0
  go_enter Try.func7, Try.ntmps7
  go_wp2_with fail
  refine (known_any _).mono ?_
  rintro e w1 ⟨rfl, hb1⟩
  have rl1 := rl.below hb1
  go_wp2_with fail
  refine (HR.out _ rl1).mono ?_
  rintro e w2 ⟨A1, c1, B1, rfl, hp1, own1, hb2⟩
  have hB1 : (B1.length : Int) ≤ 900000 := by have := hp1.len; omega
  have HG2 := Lib.hid (HGK.out B1 hp1 hB1)
  have HE2 := Lib.hid (HGE.out B1 hp1 hB1)
  obtain ⟨N, hN⟩ : ∃ N, L.length = N := ⟨_, rfl⟩
  obtain ⟨bl, hbl⟩ : ∃ N, B1.length = N := ⟨_, rfl⟩
  rw [hN] at HG2 HE2 HCA hC2 ⊢
  rw [hbl] at HG2 HE2 ⊢
  have hbw2 := hb1.trans (hb2.mono hb1.size)
  have hrB := (Rd.of_own own1).alloc (.cells #[.slice A1 B1.length c1, .int .i64 (N : Int)] 27)
  have rl2 := (rl1.below hb2)
  have HX := Lib.hid (Blk.new w2 27 #[.slice A1 bl c1, .int .i64 (N : Int)])
  have hbw2a := hbw2.alloc hbw2.size (.cells #[.slice A1 bl c1, .int .i64 (N : Int)] 27)
  rw [hbl] at hrB
  have hNI : (N : Int) ≤ 2760 := by omega
  obtain ⟨W, hW⟩ : ∃ W, w2.alloc (.cells #[.slice A1 bl c1, .int .i64 (N : Int)] 27) = W := ⟨_, rfl⟩
  have rlW : RdI W A l := by rw [← hW]; exact rl2.below ((Below.refl _ _).alloc (Nat.le_refl _) _)
  rw [hW] at hrB HX hbw2a
  have HW := Lib.hid hW
  clear hW own1 hp1 hb2 hN hbl hB1 rl1 rl2 HR HGK HGE hC2
  go_wp2_with fail
  rw [HW.out]
  have hbn := HX.out.lt
  go_loopw [4, 5] (fun a i wr => ∃ k : Nat, k ≤ n ∧ i = .int .i64 k ∧ a = .int .i64 (cl l k : Int) ∧ Hid (Blk wr w2.heap.size 27 #[.slice A1 bl c1, .int .i64 (N : Int)]) ∧ Below W.heap.size W wr) (fun _ i _ => n - (intOf i).toNat)
  case atStart => exact ⟨0, Nat.zero_le _, rfl, by rw [HC0.out]; rfl, HX, Below.refl _ _⟩
  case round =>
    obtain ⟨wo, rfl⟩ : ∃ wo : World, wo = wr := ⟨_, rfl⟩
    obtain ⟨k, hk, rfl, rfl, HXo, hbel⟩ := hrel
    have hk' : (k : Int) ≤ n := by omega
    have hk0 : (0 : Int) ≤ (k : Int) := by omega
    have hrBo := hrB.below hbel
    have rlo := rlW.below hbel
    have x0 := HXo.out.cell 0
    have x1 := HXo.out.cell 1
    by_cases hlt : k < n
    · have hltI : (k : Int) < (n : Int) := by omega
      have hlt2 : decide (k < n) = true := by simp; omega
      obtain ⟨x, hx⟩ := HGET.out k hlt
      have hpq := cl_lt hx
      have hq := cl_le l (k + 1)
      have G := fun wx h => HG2.out k x hx A1 c1 wx h
      obtain ⟨q, hqe⟩ : ∃ q, cl l (k + 1) = q := ⟨_, rfl⟩
      obtain ⟨p, hpe⟩ : ∃ q, cl l k = q := ⟨_, rfl⟩
      rw [hqe, hpe] at hpq G
      rw [hqe] at hq
      rw [hpe]
      have HC := Lib.hid hqe
      have HG := Lib.hid G
      have hpqI : ¬ (q : Int) ≤ (p : Int) := by omega
      have hpq2 : decide (q ≤ p) = false := by simp; omega
      have hqI : (q : Int) ≤ 2760 := by omega
      have hp0 : (0 : Int) ≤ (p : Int) := by omega
      clear hq G hpe hqe hpq
      go_wp2_with fail
      refine (HG.out _ hrBo).mono ?_
      rintro e w3 ⟨rfl, hb3⟩
      obtain ⟨g, o, hA, hg, e0⟩ := (rlo.below hb3).at_ hx
      subst hA
      have hbx := hbel.trans (hb3.mono hbel.size)
      replace HXo := Lib.hid (HXo.out.below hb3 HXo.out.lt)
      clear hb3 hx x0 x1
      go_wp2_with fail
      go_roundw
      case rel => exact ⟨k + 1, by omega, by go_num, by rw [HC.out], HXo, hbx⟩
      case measure => simp [intOf]; omega
    · obtain rfl : k = n := by omega
      have HP : Hid (cl l k = N) := Lib.hid HCA.out
      rw [HP.out]
      clear hlt
      go_wp2_with fail
      refine (HE2.out A1 c1 _ hrBo).mono ?_
      rintro e w3 ⟨rfl, hb3⟩
      replace HXo := Lib.hid (HXo.out.below hb3 HXo.out.lt)
      clear x0 x1
      have x0 := HXo.out.cell 0
      have x1 := HXo.out.cell 1
      have hbx := hbel.trans (hb3.mono hbel.size)
      go_wp2_with fail
      go_ret
      exact ⟨rfl, hbw2a.trans (hbx.mono hbw2a.size)⟩

set_option maxRecDepth 100000 in
theorem lifted_ZigBack (os : Os) (started : os.Started) (H : Type) (enc : TypeId × Value → H) :
    ReturnsInHanded {} Try.checked os 7 .any (Rows.zigBackSpec.pre6 enc Try.prog Try.f7 Rows.zigBackRow.domain false) (Rows.zigBackSpec.post enc Try.prog Try.f7 false true false false) := by
  refine returnsInHanded_of_change (C := Try.checked) own started (by kernel_rfl) Try.func7
    (ChangeSpec.witness6 (enc := enc) (C := Try.checked) false ⟨#[], #[.slice none 0 0], []⟩ 8 (by kernel_rfl) (by kernel_rfl) (by kernel_rfl) (by kernel_rfl)) ?_
  intro W base args ds gs before hval0 hW hcnd _
  have hval : ∀ (j : Nat) t v, Try.f7.params[j]? = some t → args[j]? = some v → Value.okWide Try.prog W .any base t v := hval0
  have hW' := hW
  obtain ⟨p, q, hA0, hV, rfl, hfz, hnd⟩ := hW
  have hA : DataW.TrodAll enc Try.prog W 0 (fun _ => true) true Try.f7.params.toList args.toList ds p := hA0
  rw [Try.params7] at hA hval
  obtain ⟨v0, vs0, d0, ds0, p0, q0, hargs, rfl, rfl, h0, r0⟩ := trodAll_cons hA
  obtain ⟨rfl, rfl, rfl⟩ := trodAll_nil r0
  obtain rfl : args = #[v0] := by cases args; simp_all
  obtain ⟨rfl, rfl⟩ := trodVars_none hV
  have k0 := h0
  have lt0 : ∀ x ∈ p0, x.block < W.heap.size := by obtain ⟨m, hm⟩ := k0; exact DataW.trod_lt m _ _ _ hm
  obtain ⟨A0, c0, l0, rfl, rd0, ok0, le0⟩ := open_i64s (hval 0 22 v0 rfl rfl) h0
  clear hA0 hval0
  refine (walk_ZigBack W A0 c0 l0 rd0 ok0 le0).mono fun e W' ⟨he, bel⟩ => ?_
  subst he
  exact ⟨_, rfl, _, _, _, [], _, [], hW', trodAll_mk1 (shut_bool Try.underlying4 _), (trodAll_cons_mk (Below.trod laidOut (by kernel_rfl) (of_decide_eq_true (by kernel_rfl)) k0 bel lt0) trodAll_mk0), rfl, bel.frame _, fun h => by cases h⟩

theorem over_ZigBack : Rows.zigBackRow.holds Try.pinned (OpenSpec.ofChange Rows.zigBackSpec) :=
  OpenClaim.holds_of_wide 7 Try.f7 rfl rfl rfl rfl rfl rfl rfl ⟨rfl, rfl, rfl, rfl, rfl⟩ rfl rfl rfl rfl rfl (by kernel_rfl) Try.func7 (by kernel_rfl)
    (of_decide_eq_true (by kernel_rfl)) (by unfold Func.isWrapper; first | (rw [if_pos (by decide +kernel)]; kernel_rfl) | (rw [if_neg (by decide +kernel)]; exact ⟨rfl, rfl⟩))
    (fun os started H enc _ => lifted_ZigBack os started H enc)

theorem zigBack_holds : Rows.ZigBackSaid := over_ZigBack

#print axioms zigBack_holds
end Go.Proofs.Yteemncpmcfflmaa
