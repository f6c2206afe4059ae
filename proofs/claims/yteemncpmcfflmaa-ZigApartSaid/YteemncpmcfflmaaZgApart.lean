/-
  Rows.ZigApartSaid is proved: two rows of numbers are written alike just if they are the same numbers. No condition.
-/
import Derived.Test.YteemncpmcfflmaaZgOpen
namespace Go.Proofs.Yteemncpmcfflmaa
open Go.ChangeShapes Go.WideShapes Go.ChangeAt Go.RowKit
open Pl
set_option linter.unusedVariables false

/-- Are rows alike up to a place? -/
def likeB (a b : List Int) (k : Nat) : Bool := decide (a.length = b.length ∧ a.take k = b.take k)
theorem likeB_zero {a b : List Int} : likeB a b 0 = decide (a.length = b.length) := by simp [likeB]
theorem likeB_step {a b : List Int} {k : Nat} {x y : Int} (h : likeB a b k = true) (hx : a[k]? = some x) (hy : b[k]? = some y) : likeB a b (k + 1) = (x == y) := by
  have h' : a.length = b.length ∧ a.take k = b.take k := by simpa [likeB] using h
  have e : (a.take k ++ [x] = b.take k ++ [y]) ↔ x = y := by rw [h'.2]; simp
  rw [likeB, take_snoc' hx, take_snoc' hy]
  by_cases hxy : x = y
  · rw [decide_eq_true ⟨h'.1, e.2 hxy⟩, hxy]; simp
  · rw [decide_eq_false (fun hh => hxy (e.1 hh.2))]; simp [hxy]
theorem likeB_end {a b : List Int} (ha : ∀ x ∈ a, I64 x) (hb : ∀ x ∈ b, I64 x) {k : Nat} {s : Bool} (h : s = likeB a b k) (hk : s = false ∨ k = a.length) : decide (codes a = codes b) = s := by
  subst h
  by_cases e : a = b
  · subst e; simp [likeB]
  · rw [decide_eq_false (fun hh => e (codes_inj ha hb hh))]
    rcases hk with h | h
    · exact h.symm
    · unfold likeB
      rw [decide_eq_false]
      rintro ⟨h1, h2⟩
      rw [h, List.take_of_length_le (Nat.le_refl _), List.take_of_length_le (by omega)] at h2
      exact e h2

set_option maxRecDepth 100000 in
set_option maxHeartbeats 2000000 in
theorem walk_ZigApart (w : World) (A : Option Addr) (c : Nat) (a : List Int) (ra : RdI w A a) (oa : ∀ x ∈ a, I64 x) (la : a.length ≤ maxLen) (A' : Option Addr) (c' : Nat) (b : List Int) (rb : RdI w A' b) (ob : ∀ x ∈ b, I64 x) (lb : b.length ≤ maxLen) :
    Calls Try.prog 3 #[.slice A a.length c, .slice A' b.length c'] w fun e w' => e = .returned (.bool true) ∧ Below w.heap.size w w' := by
  clear la lb
  by_cases h1 : 30 < a.length
  · have hd : decide (30 < a.length) = true := by simp; omega
    have hdI : ¬ (a.length : Int) ≤ 30 := by omega
    obtain ⟨n, hn⟩ : ∃ n, a.length = n := ⟨_, rfl⟩
    rw [hn] at hd hdI ⊢
    clear hn
    clear ra oa rb ob h1
    go_enter Try.func3, Try.ntmps3
    go_wp2_with fail
    refine (known_any _).mono ?_
    rintro e w1 ⟨rfl, hb1⟩
    go_wp2_with fail
    go_ret
    exact ⟨rfl, hb1⟩
  have hd : decide (30 < a.length) = false := by simp; omega
  by_cases h2 : 30 < b.length
  · have hd2 : decide (30 < b.length) = true := by simp; omega
    have hdI : ¬ (b.length : Int) ≤ 30 := by omega
    have hdJ : (a.length : Int) ≤ 30 := by omega
    obtain ⟨n, hn⟩ : ∃ n, b.length = n := ⟨_, rfl⟩
    rw [hn] at hd2 hdI ⊢
    clear hn
    clear ra oa rb ob h2 h1
    go_enter Try.func3, Try.ntmps3
    go_wp2_with fail
    refine (known_any _).mono ?_
    rintro e w1 ⟨rfl, hb1⟩
    go_wp2_with fail
    go_ret
    exact ⟨rfl, hb1⟩
  have hd2 : decide (30 < b.length) = false := by simp; omega
  have ROWA := fun wx h => row_any A c a wx h (by omega) oa
  have ROWB := fun wx h => row_any A' c' b wx h (by omega) ob
  have END := fun k s => likeB_end (k := k) (s := s) oa ob
  have STEP := fun k x y => likeB_step (a := a) (b := b) (k := k) (x := x) (y := y)
  have H0 := Lib.hid (likeB_zero (a := a) (b := b))
  have GETA : ∀ k, k < a.length → ∃ x, a[k]? = some x := fun k h => ⟨_, List.getElem?_eq_getElem h⟩
  have GETB : ∀ k, k < b.length → ∃ x, b[k]? = some x := fun k h => ⟨_, List.getElem?_eq_getElem h⟩
  have LEN := fun k (h : likeB a b k = true) => show a.length = b.length by simp only [likeB, decide_eq_true_eq] at h; exact h.1
  obtain ⟨n, hn⟩ : ∃ n, a.length = n := ⟨_, rfl⟩
  obtain ⟨m, hm⟩ : ∃ m, b.length = m := ⟨_, rfl⟩
  obtain ⟨LA, hLA⟩ : ∃ L, codes a = L := ⟨_, rfl⟩
  obtain ⟨LB, hLB⟩ : ∃ L, codes b = L := ⟨_, rfl⟩
  rw [hn] at hd h1 ROWA END H0 GETA LEN ⊢
  rw [hm] at hd2 h2 ROWB H0 GETB LEN ⊢
  rw [hLA] at ROWA END
  rw [hLB] at ROWB END
  have HN := Lib.hid hn
  have HM := Lib.hid hm
  have HRA := Lib.hid ROWA
  have HRB := Lib.hid ROWB
  have HEND := Lib.hid END
  have HSTEP := Lib.hid STEP
  have HGA := Lib.hid GETA
  have HGB := Lib.hid GETB
  have HLEN := Lib.hid LEN
  have hn30 : (n : Int) ≤ 30 := by omega
  have hm30 : (m : Int) ≤ 30 := by omega
  clear oa ob ROWA ROWB END STEP GETA GETB LEN hn hm hLA hLB h1 h2
  go_enter Try.func3, Try.ntmps3
  go_wp2_with fail
  refine (known_any _).mono ?_
  rintro e w1 ⟨rfl, hb1⟩
  go_wp2_with fail
  go_loopw [5, 6] (fun s i wr => ∃ (k : Nat) (t : Bool), k ≤ n ∧ i = .int .i64 k ∧ s = .bool t ∧ Hid (t = likeB a b k) ∧ Below w.heap.size w wr) (fun _ i _ => n - (intOf i).toNat)
  case atStart =>
    refine ⟨0, _, Nat.zero_le _, rfl, rfl, Lib.hid ?_, hb1⟩
    rw [H0.out]
    by_cases h : n = m
    · subst h; simp
    · have h' : ¬ (n : Int) = (m : Int) := by omega
      simp [h]; omega
  case round =>
    obtain ⟨wo, rfl⟩ : ∃ wo : World, wo = wr := ⟨_, rfl⟩
    obtain ⟨k, t, hk, rfl, rfl, HT, hbel⟩ := hrel
    have hk' : (k : Int) ≤ n := by omega
    by_cases hgo : t = true ∧ k < n
    · obtain ⟨rfl, hlt⟩ := hgo
      have hltI : (k : Int) < (n : Int) := by omega
      have hlt2 : decide (k < n) = true := by simp; omega
      have hnm := HLEN.out k HT.out.symm
      obtain ⟨x, hx⟩ := HGA.out k hlt
      obtain ⟨y, hy⟩ := HGB.out k (by omega)
      obtain ⟨g, o, hA, hg, e0⟩ := (ra.below hbel).at_ hx
      obtain ⟨g', o', hA', hg', e1⟩ := (rb.below hbel).at_ hy
      subst hA
      subst hA'
      have HS := Lib.hid (HSTEP.out k _ _ HT.out.symm hx hy)
      clear hx hy HT
      have hkm : (k : Int) < (m : Int) := by omega
      have hkm2 : decide (k < m) = true := by simp; omega
      have hk0 : (0 : Int) ≤ (k : Int) := by omega
      go_wp2_with fail
      go_region
      all_goals
        go_wp2_with fail
        go_roundw
        case rel => exact ⟨k + 1, _, by omega, by go_num, rfl, Lib.hid HS.out.symm, hbel.drew⟩
        case measure => simp [intOf]; omega
    · have HE : Hid (decide (LA = LB) = t) := Lib.hid (HEND.out k t HT.out (by cases t with | false => exact .inl rfl | true => right; have hkn : ¬ k < n := fun h => hgo ⟨rfl, h⟩; omega))
      have hra := ra.below hbel
      have hrb := rb.below hbel
      have hkt : (t = false ∧ decide (k < n) = true) ∨ decide (k < n) = false := by
        by_cases hkn : k < n
        · left
          exact ⟨by cases t with | false => rfl | true => exact absurd ⟨rfl, hkn⟩ hgo, by simp; omega⟩
        · right; simp; omega
      clear hgo HT
      rcases hkt with ⟨rfl, hkn⟩ | hkn
      all_goals
        go_wp2_with fail
        refine (HRA.out _ hra).mono ?_
        rintro e w2 ⟨A1, c1, B1, rfl, hp1, own1, hb2⟩
        have hrb2 := hrb.below hb2
        have hbw2 := hbel.trans (hb2.mono hbel.size)
        have r1 := Rd.of_own own1
        have HP1 := Lib.hid hp1
        clear own1 hb2 hp1 hrb hra
        go_wp2_with fail
        refine (HRB.out _ hrb2).mono ?_
        rintro e w3 ⟨A2, c2, B2, rfl, hp2, own2, hb3⟩
        have r1b := r1.below hb3
        have r2 := Rd.of_own own2
        have hbw3 := hbw2.trans (hb3.mono hbw2.size)
        have HP2 := Lib.hid hp2
        clear own2 hb3 hp2 r1
        go_wp2_with fail
        refine (same_packs HP1.out HP2.out rfl rfl _ HE.out _ r1b r2).mono ?_
        rintro e w4 ⟨rfl, hb4⟩
        go_wp2_with fail
        go_ret
        exact ⟨rfl, hbw3.trans (hb4.mono hbw3.size)⟩
set_option maxRecDepth 100000 in
theorem lifted_ZigApart (os : Os) (started : os.Started) (H : Type) (enc : TypeId × Value → H) :
    ReturnsInHanded {} Try.checked os 3 .any (Rows.zigApartSpec.pre6 enc Try.prog Try.f3 Rows.zigApartRow.domain false) (Rows.zigApartSpec.post enc Try.prog Try.f3 false true false false) := by
  refine returnsInHanded_of_change (C := Try.checked) own started (by kernel_rfl) Try.func3
    (ChangeSpec.witness6 (enc := enc) (C := Try.checked) false ⟨#[], #[.slice none 0 0, .slice none 0 0], []⟩ 8 (by kernel_rfl) (by kernel_rfl) (by kernel_rfl) (by kernel_rfl)) ?_
  intro W base args ds gs before hval0 hW hcnd _
  have hval : ∀ (j : Nat) t v, Try.f3.params[j]? = some t → args[j]? = some v → Value.okWide Try.prog W .any base t v := hval0
  have hW' := hW
  obtain ⟨p, q, hA0, hV, rfl, hfz, hnd⟩ := hW
  have hA : DataW.TrodAll enc Try.prog W 0 (fun _ => true) true Try.f3.params.toList args.toList ds p := hA0
  rw [Try.params3] at hA hval
  obtain ⟨v0, vs0, d0, ds0, p0, q0, hargs, rfl, rfl, h0, r0⟩ := trodAll_cons hA
  obtain ⟨v1, vs1, d1, ds1, p1, q1, rfl, rfl, rfl, h1, r1⟩ := trodAll_cons r0
  obtain ⟨rfl, rfl, rfl⟩ := trodAll_nil r1
  obtain rfl : args = #[v0, v1] := by cases args; simp_all
  obtain ⟨rfl, rfl⟩ := trodVars_none hV
  have k0 := h0
  have lt0 : ∀ x ∈ p0, x.block < W.heap.size := by obtain ⟨m, hm⟩ := k0; exact DataW.trod_lt m _ _ _ hm
  obtain ⟨A0, c0, l0, rfl, rd0, ok0, le0⟩ := open_i64s (hval 0 22 v0 rfl rfl) h0
  have k1 := h1
  have lt1 : ∀ x ∈ p1, x.block < W.heap.size := by obtain ⟨m, hm⟩ := k1; exact DataW.trod_lt m _ _ _ hm
  obtain ⟨A1, c1, l1, rfl, rd1, ok1, le1⟩ := open_i64s (hval 1 22 v1 rfl rfl) h1
  clear hA0 hval0
  refine (walk_ZigApart W A0 c0 l0 rd0 ok0 le0 A1 c1 l1 rd1 ok1 le1).mono fun e W' ⟨he, bel⟩ => ?_
  subst he
  exact ⟨_, rfl, _, _, _, [], _, [], hW', trodAll_mk1 (shut_bool Try.underlying4 _), (trodAll_cons_mk (Below.trod laidOut (by kernel_rfl) (of_decide_eq_true (by kernel_rfl)) k0 bel lt0) (trodAll_cons_mk (Below.trod laidOut (by kernel_rfl) (of_decide_eq_true (by kernel_rfl)) k1 bel lt1) trodAll_mk0)), rfl, bel.frame _, fun h => by cases h⟩

theorem over_ZigApart : Rows.zigApartRow.holds Try.pinned (OpenSpec.ofChange Rows.zigApartSpec) :=
  OpenClaim.holds_of_wide 3 Try.f3 rfl rfl rfl rfl rfl rfl rfl ⟨rfl, rfl, rfl, rfl, rfl⟩ rfl rfl rfl rfl rfl (by kernel_rfl) Try.func3 (by kernel_rfl)
    (of_decide_eq_true (by kernel_rfl)) (by unfold Func.isWrapper; first | (rw [if_pos (by decide +kernel)]; kernel_rfl) | (rw [if_neg (by decide +kernel)]; exact ⟨rfl, rfl⟩))
    (fun os started H enc _ => lifted_ZigApart os started H enc)

theorem zigApart_holds : Rows.ZigApartSaid := over_ZigApart

#print axioms zigApart_holds
end Go.Proofs.Yteemncpmcfflmaa
