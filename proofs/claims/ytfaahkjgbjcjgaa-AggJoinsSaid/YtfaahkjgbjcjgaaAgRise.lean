/-
  rising: those of a list whose times rise.
-/
import Derived.Test.YtfaahkjgbjcjgaaAgOf
import Derived.Test.YtfaahkjgbjcjgaaAgPl3
import Derived.Deep.QuietTactic
import Derived.BigQuiet
import Derived.IntWalk
namespace Go.Proofs.Ytfaahkjgbjcjgaa
open Go.RowKit
set_option linter.unusedVariables false

theorem info_smp : (Try.prog.info? 27).map (fun i => (i.zero, i.size, i.bytes)) = some (some (.agg #[.int .i64 0, .int .u64 0]), 2, 16) := by kernel_rfl

theorem RdS.of_own {w : World} {base n c : Nat} {e : TypeId} {A : Option Addr} {l : List Smp} (h : w.ownsRow base e 2 (.slice A n c) n (smpCells l)) : RdS w A l := by
  by_cases hn : l = []
  · exact .inl hn
  · have hl : n = l.length := by have := h.1; rw [smpCells_length] at this; omega
    have hp : 0 < n := by rw [hl]; cases l <;> simp_all
    obtain ⟨g, cap, hv, _, hlt⟩ := h.form hp
    have hA : A = some ⟨g, 0, none⟩ := by injection hv
    subst hA
    have add : ∀ j, (⟨g, 0, none⟩ : Addr).add j = ⟨g, 0 + j, none⟩ := fun j => by unfold Addr.add; split <;> simp_all
    refine .inr ⟨g, 0, rfl, hlt, fun i s hi => ⟨?_, ?_⟩⟩
    · have := h.cells (g := g) rfl (i * 2) _ (smpCells_get hi).1
      rwa [add] at this
    · have := h.cells (g := g) rfl (i * 2 + 1) _ (smpCells_get hi).2
      rwa [add] at this

/-- The call answers these samples in a row of its own. -/
def RetSmp (L : List Smp) (w : World) (e : Ending) (w' : World) : Prop :=
  ∃ A c, e = .returned (.slice A L.length c) ∧ L.length ≤ c ∧ w'.ownsRow w.heap.size 27 2 (.slice A L.length c) L.length (smpCells L) ∧ Below w.heap.size w w'

theorem smpCells_snoc (l : List Smp) (t v : Int) : smpCells (l ++ [(t, v)]) = smpCells l ++ [.int .i64 t, .int .u64 v] := by rw [smpCells_append]; rfl

theorem _root_.Go.World.ownsRow.drewN' {w : World} {base : Nat} {e : TypeId} {size : Nat} {v : Value} {n : Nat} {xs : List Value} (h : w.ownsRow base e size v n xs) (k : Nat) : (w.drewN k).ownsRow base e size v n xs := h

theorem own_le {w : World} {base n n' c : Nat} {e : TypeId} {size : Nat} {A : Option Addr} {xs : List Value} (h : w.ownsRow base e size (.slice A n c) n' xs) : n ≤ c := by
  rcases h.2 with ⟨hv, _⟩ | ⟨g, cap, cur, hv, _, _, hnc, _⟩
  · injection hv with _ h1 h2; omega
  · injection hv with _ h1 h2; omega

theorem own_len2 {w : World} {base n c : Nat} {e : TypeId} {A : Option Addr} {l : List Smp} (h : w.ownsRow base e 2 (.slice A n c) n (smpCells l)) : n = l.length := by
  have := h.1; rw [smpCells_length] at this; omega

set_option maxRecDepth 100000 in
set_option maxHeartbeats 4000000 in
theorem rising_any (A : Option Addr) (c : Nat) (l : List Smp) (w : World) (hr : RdS w A l) (hn : l.length ≤ 1000) :
    Calls Try.prog 9 #[.slice A l.length c] w (RetSmp (rise l) w) := by
  obtain ⟨i0, hi, hz0, hz1, hzb⟩ := info_parts info_smp
  obtain ⟨n, hnl⟩ : ∃ n, l.length = n := ⟨_, rfl⟩
  rw [hnl] at hn
  rw [hnl]
  have HN := Lib.hid hnl
  obtain ⟨R, hR⟩ : ∃ R, rise l = R := ⟨_, rfl⟩
  rw [hR]
  have HR := Lib.hid hR
  clear hnl hR
  have hn' : (n : Int) ≤ 1000 := by omega
  go_enter Try.func9, Try.ntmps9
  go_wp2_with fail
  go_loopw [3, 4] (fun v i wr => ∃ (k n' c' : Nat) (A' : Option Addr) (out : List Smp), k ≤ n ∧ n' ≤ k ∧ i = .int .i64 k ∧ v = .slice A' n' c' ∧ Hid (rise (l.take k) = out) ∧ Hid (out.length = n') ∧ wr.ownsRow w.heap.size 27 2 (.slice A' n' c') n' (smpCells out) ∧ Below w.heap.size w wr) (fun _ i _ => n - (intOf i).toNat)
  case atStart => exact ⟨0, 0, 0, none, [], Nat.zero_le _, Nat.le_refl _, rfl, rfl, Lib.hid rfl, Lib.hid rfl, World.ownsRow_nil _ _ _ _, Below.refl _ _⟩
  case round =>
    obtain ⟨wo, rfl⟩ : ∃ wo : World, wo = wr := ⟨_, rfl⟩
    obtain ⟨k, n', c', A', out, hk, hnk, rfl, rfl, HO, HL, hown, hbel⟩ := hrel
    have hrd := hr.below hbel
    have hk' : (k : Int) ≤ n := by omega
    have hnk' : (n' : Int) ≤ k := by omega
    by_cases h0 : k = n
    · subst h0
      have hRa : R = out := by rw [← HR.out, ← HO.out, List.take_of_length_le (by rw [HN.out]; exact Nat.le_refl _)]
      subst hRa
      have HL2 := HL.out
      have hle := own_le hown
      clear hi hz0 hz1 hzb
      have HLL := Lib.hid HL2
      clear HL2
      go_wp2_with fail
      go_ret
      rw [← HLL.out] at hle hown ⊢
      exact ⟨A', c', rfl, hle, hown, hbel⟩
    · have hlt : k < n := by omega
      have hlt2 : decide (k < n) = true := by simp; omega
      obtain ⟨x, hx⟩ : ∃ x, l[k]? = some x := ⟨l[k]'(by rw [HN.out]; exact hlt), List.getElem?_eq_getElem (by rw [HN.out]; exact hlt)⟩
      obtain ⟨t, v⟩ := x
      have HST : Hid (rise (l.take (k + 1)) = riseStep out (t, v)) := Lib.hid (by rw [take_snoc' hx, rise_snoc, HO.out])
      obtain ⟨g, o, rfl, hg, e0, e1⟩ := hrd.at_ hx
      clear hx hrd h0
      rcases snoc_cases out with rfl | ⟨pre, last, rfl⟩
      · have hn0 : n' = 0 := HL.out.symm
        subst hn0
        go_wp2_with fail
        go_quiet (fail)
        go_wp2_with (at_builtin; (refine wpList_append_lies _ rfl _ _ 22 rfl w.heap.size 27 i0 (.agg #[.int .i64 0, .int .u64 0]) 2 16 Try.underlying22 hi hz0 hz1 hzb rfl (by decide) (.slice A' 0 c') 0 (smpCells []) rfl (by exact hown.alloc (.cells #[.int .i64 t, .int .u64 v] 27)) ⟨wo.heap.size, 0, none⟩ 1 1 [.int .i64 t, .int .u64 v] rfl rfl (World.news_of_block (heap_alloc_new _ _)) (by simp [Value.oneCell']) (by decide) (by unfold maxLen; omega) (by omega) (by have := hbel.size; simp; omega) (wo.heap.size + 1) (by simp) ?_; intro g3 cap3 w3 hown3 hgrow3 hat3 hlt3; rw [← smpCells_snoc] at hown3; have hb3 : Below w.heap.size w w3 := ((below_drewN hbel _).alloc (by exact hbel.size) _).grown hgrow3 (by have := hbel.size; simp; omega) (fun k hk => (hown.lt _ hk).1)))
        go_roundw
        case rel => exact ⟨k + 1, 1, cap3, some ⟨g3, 0, none⟩, [(t, v)], by omega, by omega, by go_num, rfl, HST, Lib.hid rfl, hown3, hb3⟩
        case measure => simp [intOf]; omega
      · obtain ⟨q, hq⟩ : ∃ q, pre.length = q := ⟨_, rfl⟩
        obtain ⟨tl, vl⟩ := last
        have hq1 : n' = q + 1 := by have := HL.out; simp only [List.length_append, List.length_cons, List.length_nil] at this; omega
        subst hq1
        obtain ⟨gr, cap, hv, _, _⟩ := hown.form (Nat.succ_pos q)
        obtain ⟨A2, hA2⟩ : ∃ A2, A2 = A' := ⟨_, rfl⟩
        rw [← hA2] at hown hv ⊢
        have hA3 : A2 = some ⟨gr, 0, none⟩ := by injection hv
        clear hv hA2
        subst hA3
        have hcl : wo.cell? ⟨gr, q * 2, none⟩ = some (.int .i64 tl) := by
          have := hown.cells (g := gr) rfl (q * 2) _ (smpCells_get (s := (tl, vl)) (by rw [← hq]; simp)).1
          have e : (⟨gr, 0, none⟩ : Addr).add (q * 2) = ⟨gr, 0 + q * 2, none⟩ := by unfold Addr.add; split <;> simp_all
          rw [e, Nat.zero_add] at this
          exact this
        clear hq
        have hltI : (k : Int) < (n : Int) := by omega
        have hq64 : (q : Int) + 1 ≤ 1000 := by omega
        have hq0 : (0 : Int) ≤ (q : Int) := by omega
        have hqq : (q : Int) < (q : Int) + 1 := by omega
        have b1 : (((q + 1 : Nat) : Int) == 0) = false := beq_eq_false_iff_ne.2 (by omega)
        have b2 : ((q : Int) + 1 == 0) = false := beq_eq_false_iff_ne.2 (by omega)
        have b5 : IntKind.i64.wrap (q : Int) = (q : Int) := IntWalk.i64_in _ (by omega)
        by_cases ht : tl < t
        · have hd : decide (tl < t) = true := decide_eq_true ht
          have HST2 : Hid (rise (l.take (k + 1)) = (pre ++ [(tl, vl)]) ++ [(t, v)]) := Lib.hid (HST.out.trans (riseStep_yes pre (tl, vl) (t, v) ht))
          clear ht HST
          go_wp2_with fail
          go_quiet (fail)
          go_wp2_with (at_builtin; (refine wpList_append_lies _ rfl _ _ 22 rfl w.heap.size 27 i0 (.agg #[.int .i64 0, .int .u64 0]) 2 16 Try.underlying22 hi hz0 hz1 hzb rfl (by decide) (.slice (some ⟨gr, 0, none⟩) (q + 1) c') (q + 1) (smpCells (pre ++ [(tl, vl)])) rfl (by exact hown.alloc (.cells #[.int .i64 t, .int .u64 v] 27)) ⟨wo.heap.size, 0, none⟩ 1 1 [.int .i64 t, .int .u64 v] rfl rfl (World.news_of_block (heap_alloc_new _ _)) (by simp [Value.oneCell']) (by decide) (by unfold maxLen; omega) (by omega) (by have := hbel.size; simp; omega) (wo.heap.size + 1) (by simp) ?_; intro g3 cap3 w3 hown3 hgrow3 hat3 hlt3; rw [← smpCells_snoc] at hown3; have hb3 : Below w.heap.size w w3 := ((below_drewN hbel _).alloc (by exact hbel.size) _).grown hgrow3 (by have := hbel.size; simp; omega) (fun k hk => (hown.lt _ hk).1)))
          go_roundw
          case rel => exact ⟨k + 1, q + 1 + 1, cap3, some ⟨g3, 0, none⟩, _, by omega, by omega, by go_num, rfl, HST2, Lib.hid (by have := HL.out; simp only [List.length_append, List.length_cons, List.length_nil] at this ⊢; omega), hown3, hb3⟩
          case measure => simp [intOf]; omega
        · have hd : decide (tl < t) = false := decide_eq_false ht
          have HST2 : Hid (rise (l.take (k + 1)) = (pre ++ [(tl, vl)])) := Lib.hid (HST.out.trans (riseStep_no pre (tl, vl) (t, v) ht))
          clear ht HST
          go_wp2_with fail
          go_quiet (fail)
          go_wp2_with fail
          go_roundw
          case rel => exact ⟨k + 1, q + 1, c', some ⟨gr, 0, none⟩, _, by omega, by omega, by go_num, rfl, HST2, HL, hown.drewN' _, below_drewN hbel _⟩
          case measure => simp [intOf]; omega
end Go.Proofs.Ytfaahkjgbjcjgaa
