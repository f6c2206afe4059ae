/-
  The references' first words: draymanref01.Bit, List, Of.
-/
import Derived.Test.YteemncpmcfflmaaProg
import Derived.Test.YteemncpmcfflmaaBase
import Derived.Test.YteemncpmcfflmaaPl4
import Derived.Deep.QuietTactic
import Derived.BigQuiet
import Derived.BigRegion
import Derived.Laws.Pointers
namespace Go.Proofs.Yteemncpmcfflmaa
open Go.RowKit Pl
set_option linter.unusedVariables false

theorem info_u8' : (Try.prog.info? 5).map (fun i => (i.zero, i.size, i.bytes)) = some (some (.int .u8 0), 1, 1) := by kernel_rfl

set_option maxHeartbeats 1000000 in
theorem rbit_any (A : Option Addr) (c : Nat) (B : List Int) (N : Int) (p : Nat) (w : World) (hr : Rd w A B) (hB : Byts B) (hp : p < 8 * B.length) (hl : (B.length : Int) ≤ 1000000000) :
    Calls Try.prog 31 #[.agg #[.slice A B.length c, .int .i64 N], .int .i64 p] w fun e w' => e = .returned (.int .u8 (bi (bitAt B p))) ∧ Below w.heap.size w w' := by
  obtain ⟨g, o, rfl, hg, hc⟩ := hr.at_ (by omega)
  obtain ⟨n, hn⟩ : ∃ n, B.length = n := ⟨_, rfl⟩
  have h1 := hc (p / 8) (by omega)
  have hi : p / 8 < n := by omega
  have hp' : (p : Int) ≤ 8000000000 := by omega
  have A1 := bit_of hB p
  rw [hn] at hl
  rw [hn]
  change bits .and .u8 (nth B (p / 8) / 2 ^ (7 - p % 8)) 1 = _ at A1
  have H1 := Lib.hid A1
  clear hn hB hr hc A1
  go_enter Try.func31, Try.ntmps31
  go_wp2
  go_ret
  refine ⟨ret_int ?_, (Below.refl _ _).alloc (Nat.le_refl _) _⟩
  rw [← H1.out]

theorem ones_take {L : List Bool} {k : Nat} (h : k < L.length) : u8s (ones (L.take (k + 1))) = u8s (ones (L.take k)) ++ [.int .u8 (bi (L.getD k false))] := by
  rw [take_snoc h, ones_append, u8s_append]; rfl

set_option maxRecDepth 100000 in
set_option maxHeartbeats 2000000 in
theorem rlist_any (A : Option Addr) (c : Nat) (B : List Int) (L : List Bool) (w : World) (hr : Rd w A B) (hp : Packs B L) (hl : (B.length : Int) ≤ 100000000) :
    Calls Try.prog 24 #[.agg #[.slice A B.length c, .int .i64 (L.length : Int)]] w (RetRow 5 (ones L) w) := by
  obtain ⟨i0, hi, hz0, hz1, hz2⟩ := info_parts info_u8'
  have hLB := packs_len_le hp
  obtain ⟨n, hn⟩ : ∃ n, L.length = n := ⟨_, rfl⟩
  rw [hn] at hLB
  rw [hn]
  have HP := Lib.hid hp
  have HN := Lib.hid hn
  have hn8 : (n : Int) ≤ 800000000 := by omega
  clear hp hn
  go_enter Try.func24, Try.ntmps24
  go_wp2_with fail
  go_loopw [3, 4] (fun v i wr => ∃ k A' c', k ≤ n ∧ i = .int .i64 (k : Nat) ∧ v = .slice A' k c' ∧ wr.ownsRow (w.heap.size + 1) 5 1 (.slice A' k c') k (u8s (ones (L.take k))) ∧ Below (w.heap.size + 1) (w.alloc (.cells #[.slice A B.length c, .int .i64 (n : Int)] 27)) wr) (fun _ i _ => n - (intOf i).toNat)
  case atStart => exact ⟨0, none, 0, Nat.zero_le _, rfl, rfl, World.ownsRow_nil _ _ _ _, Below.refl _ _⟩
  case round =>
    obtain ⟨k, A', c', hk, rfl, rfl, hown, hbel⟩ := hrel
    have hb2 : Below w.heap.size w wr := ((Below.refl _ _).alloc (Nat.le_refl _) _).trans (hbel.mono (by omega))
    have hc0 : wr.cell? ⟨w.heap.size, 0, none⟩ = some (.slice A B.length c) := (hbel.cell (by simp)).trans (by simp)
    have hc1 : wr.cell? ⟨w.heap.size, 1, none⟩ = some (.int .i64 (n : Int)) := (hbel.cell (by simp)).trans (by simp)
    have hzr : w.heap.size < wr.heap.size := by have := hbel.size; simp at this; omega
    have hrd := hr.below hb2
    have hkn : (k : Int) ≤ n := by omega
    by_cases h0 : k = n
    · subst h0
      go_wp2_with fail
      go_ret
      rw [List.take_of_length_le (by have := HN.out; omega)] at hown
      have hl1 : (ones L).length = k := by rw [ones_length]; exact HN.out
      refine ⟨A', c', ?_, own_base (by rw [hl1]; exact hown) (by omega), hb2⟩
      rw [hl1]
      rfl
    · have h1 : decide (k < n) = true := by simp; omega
      have hkn' : k < n := by omega
      have H0 := Lib.hid h0
      clear h0
      go_wp2_with fail
      refine (rbit_any A c B n k _ hrd HP.out.byts (by omega) (by omega)).mono ?_
      rintro e w1 ⟨rfl, hb3⟩
      rw [HP.out.bit]
      have hown1 : w1.ownsRow (w.heap.size + 1) 5 1 (.slice A' k c') k (u8s (ones (L.take k))) := hown.kept (row := none) ⟨hb3.os, hb3.tape, hb3.output, hb3.size, fun j hj _ => hb3.block j hj⟩ (by cases (Value.slice A' k c').ownBlock <;> simp)
      have hz1' : w.heap.size + 1 ≤ w1.heap.size := by have := hb3.size; omega
      have hmx : k + 1 ≤ maxLen := by unfold maxLen; omega
      have hby : (k + 1) * 1 ≤ 140737488355328 := by omega
      go_wp2_with (at_builtin; refine wpList_append_lies _ rfl _ _ 25 rfl (w.heap.size + 1) 5 i0 (.int .u8 0) 1 1 Try.underlying25 hi hz0 hz1 hz2 rfl (by decide) (.slice A' k c') k (u8s (ones (L.take k))) rfl (hown1.alloc _) ⟨w1.heap.size, 0, none⟩ 1 1 [_] rfl rfl (World.news_of_block (heap_alloc_new w1 _)) (by simp [Value.oneCell']) (by decide) hmx hby (by simp; omega) (w1.heap.size + 1) (by simp) ?_; intro gg cap w2 hown2 hgrow hat hlt2)
      go_roundw
      case rel =>
        have hkL : k < L.length := by have := HN.out; omega
        refine ⟨k + 1, some ⟨gg, 0, none⟩, cap, by omega, by go_num, rfl, ?_, ?_⟩
        · rw [ones_take hkL]; exact hown2
        · exact (((hbel.trans (hb3.mono (by omega))).alloc (by omega) _).grown hgrow (by simp; omega) (fun j hj => (hown1.lt j hj).1))
      case measure => simp [intOf]; omega

/-- The call answers bits L in a row of its own (one result). -/
def RetOf (e8 : TypeId) (L : List Bool) (w : World) (e : Ending) (w' : World) : Prop :=
  ∃ A c B, e = .returned (.agg #[.slice A B.length c, .int .i64 (L.length : Int)]) ∧ Packs B L ∧ w'.ownsRow w.heap.size e8 1 (.slice A B.length c) B.length (u8s B) ∧ Below w.heap.size w w'

theorem own_form {w : World} {base n c : Nat} {e : TypeId} {A : Option Addr} {B : List Int} (h : w.ownsRow base e 1 (.slice A n c) n (u8s B)) (hn : 0 < n) :
    ∃ g, A = some ⟨g, 0, none⟩ ∧ base ≤ g ∧ g < w.heap.size ∧ (∀ i, i < n → w.cell? ⟨g, i, none⟩ = some (.int .u8 (nth B i))) ∧ ∀ i, w.frozen? ⟨g, i, none⟩ = false := by
  obtain ⟨g, cap, hv, hb, hlt⟩ := h.form hn
  have hA : A = some ⟨g, 0, none⟩ := by injection hv
  subst hA
  refine ⟨g, rfl, hb, hlt, fun i hi => ?_, fun i => h.frozenAt i⟩
  rw [h.cellAt i (by omega)]
  exact u8s_get (by have := h.1; rw [u8s_length] at this; omega)

set_option maxRecDepth 100000 in
set_option maxHeartbeats 4000000 in
theorem rof_any (A : Option Addr) (c : Nat) (L : List Bool) (w : World) (hr : Rd w A (ones L)) (hl : (L.length : Int) ≤ 800000000) :
    Calls Try.prog 27 #[.slice A L.length c] w (RetOf 5 L w) := by
  obtain ⟨i0, hi, hz0, hz1, hz2⟩ := info_parts info_u8'
  obtain ⟨n, hn⟩ : ∃ n, L.length = n := ⟨_, rfl⟩
  rw [hn] at hl
  rw [hn]
  have HN := Lib.hid hn
  clear hn
  go_enter Try.func27, Try.ntmps27
  go_wp2_with fail
  go_loopw [3, 4] (fun v i wr => ∃ k A' c' B, k ≤ n ∧ i = .int .i64 (k : Nat) ∧ v = .slice A' B.length c' ∧ wr.ownsRow (w.heap.size + 1) 5 1 (.slice A' B.length c') B.length (u8s B) ∧ Packs B (L.take k) ∧ Below (w.heap.size + 1) (w.alloc (.cells #[.slice none 0 0, .int .i64 0] 27)) wr) (fun _ i _ => n - (intOf i).toNat)
  case atStart => exact ⟨0, none, 0, [], Nat.zero_le _, rfl, rfl, World.ownsRow_nil _ _ _ _, packs_nil, Below.refl _ _⟩
  case round =>
    obtain ⟨k, A', c', B, hk, rfl, rfl, hown, hpk, hbel⟩ := hrel
    have hb2 : Below w.heap.size w wr := ((Below.refl _ _).alloc (Nat.le_refl _) _).trans (hbel.mono (by omega))
    have hrd := hr.below hb2
    have hkn : (k : Int) ≤ n := by omega
    have hlen : B.length = (k + 7) / 8 := by have := hpk.len; have := HN.out; rw [hpk.len, List.length_take, Nat.min_eq_left (by omega)]
    obtain ⟨q, hq⟩ : ∃ q, B.length = q := ⟨_, rfl⟩
    rw [hq] at hown hlen
    rw [hq]
    have hzr : w.heap.size < wr.heap.size := by have := hbel.size; simp at this; omega
    by_cases h0 : k = n
    · subst h0
      have hc0 : wr.cell? ⟨w.heap.size, 0, none⟩ = some (.slice none 0 0) := (hbel.cell (by simp)).trans (by simp)
      have hc1 : wr.cell? ⟨w.heap.size, 1, none⟩ = some (.int .i64 0) := (hbel.cell (by simp)).trans (by simp)
      have hf0 : wr.frozen? ⟨w.heap.size, 0, none⟩ = false := (hbel.frozen (by simp)).trans (by simp)
      have hf1 : wr.frozen? ⟨w.heap.size, 1, none⟩ = false := (hbel.frozen (by simp)).trans (by simp)
      have HQ := Lib.hid hq
      clear hq hlen
      go_wp2_with fail
      refine bodyPost_ret (v := .agg #[.slice A' q c', .int .i64 (k : Int)]) (by simp [results, Try.results27, go_sem, hc0, hc1]) rfl ?_
      rw [List.take_of_length_le (by have := HN.out; omega)] at hpk
      have := HQ.out
      subst this
      refine ⟨A', c', B, by rw [HN.out], hpk, ?_, (hb2.setCell (by simp) _).setCell (by simp) _⟩
      exact own_far (own_far (own_base hown (by omega)) (fun e => by have := hown.lt _ e; simp at this; omega) _) (fun e => by have := hown.lt _ e; simp at this; omega) _
    · have h1 : decide (k < n) = true := by simp; omega
      have hkn' : k < n := by omega
      have hkL : k < L.length := by have := HN.out; omega
      obtain ⟨ga, oa, rfl, hga, hca⟩ := hrd.at_ (by rw [ones_length]; omega)
      have hck := hca k (by rw [ones_length]; exact hkL)
      have hnth : nth (ones L) k = bi (L.getD k false) := ones_getD L k
      rw [hnth] at hck
      obtain ⟨x, hx⟩ : ∃ x, bi (L.getD k false) = x := ⟨_, rfl⟩
      rw [hx] at hck
      have hx01 := bi_range (L.getD k false)
      rw [hx] at hx01
      have hx0 := hx01.1
      have hx1 := hx01.2
      have HX := Lib.hid hx
      have HQ := Lib.hid hq
      have HL := Lib.hid hlen
      have HP := Lib.hid hpk
      have hk7 : (0 : Int) ≤ 7 - (k : Int) % 8 := by omega
      have hga2 : ga < w.heap.size := by
        rcases hr with h | ⟨g', o', h, h', _⟩
        · exact absurd (congrArg List.length h) (by rw [ones_length]; show ¬ L.length = 0; omega)
        · simp at h; omega
      clear hca hnth hx hx01 hq hpk h0 hrd hlen
      by_cases h8 : k % 8 = 0
      · have hz8 : ((k : Int) % 8 == 0) = true := by rw [beq_iff_eq]; omega
        have hqk : q = k / 8 := by have := HL.out; omega
        subst hqk
        have hmx : k / 8 + 1 ≤ maxLen := by unfold maxLen; omega
        have hby : (k / 8 + 1) * 1 ≤ 140737488355328 := by omega
        have H8 := Lib.hid h8
        clear h8
        go_wp2_with (at_builtin; refine wpList_append_lies _ rfl _ _ 25 rfl (w.heap.size + 1) 5 i0 (.int .u8 0) 1 1 Try.underlying25 hi hz0 hz1 hz2 rfl (by decide) (.slice A' (k / 8) c') (k / 8) (u8s B) rfl (hown.alloc _) ⟨wr.heap.size, 0, none⟩ 1 1 [.int .u8 0] rfl rfl (World.news_of_block (heap_alloc_new wr _)) (by simp [Value.oneCell']) (by decide) hmx hby (by simp; omega) (wr.heap.size + 1) (by simp) ?_; intro g cap w1 hown1 hgrow hat hlt1)
        have hown2 : w1.ownsRow (w.heap.size + 1) 5 1 (.slice (some ⟨g, 0, none⟩) (k / 8 + 1) cap) (k / 8 + 1) (u8s (B ++ [0])) := by rw [u8s_append]; exact hown1
        obtain ⟨g', hg', hbg, hlg, hcg, hfg⟩ := own_form hown2 (by omega)
        have hg' : g' = g := by injection hg' with h; injection h with h; exact h.symm
        subst hg'
        have hcg' := hcg (k / 8) (by omega)
        have hn0 : nth (B ++ [0]) (k / 8) = 0 := by
          have := HQ.out
          unfold nth
          rw [List.getD_eq_getElem?_getD, List.getElem?_append_right (by omega), show k / 8 - B.length = 0 from by omega]
          rfl
        rw [hn0] at hcg'
        have hbel1 := (hbel.alloc (by omega) _).grown hgrow (by simp; omega) (fun j hj => (hown.lt j hj).1)
        have hck1 : w1.cell? ⟨ga, oa + k, none⟩ = some (.int .u8 x) := by
          have e : w1.cell? ⟨ga, oa + k, none⟩ = wr.cell? ⟨ga, oa + k, none⟩ :=
            (hbel1.cell (p := ⟨ga, oa + k, none⟩) (by simp; omega)).trans (hbel.cell (p := ⟨ga, oa + k, none⟩) (by simp; omega)).symm
          rw [e]; exact hck
        have hq8 : (k : Int) / 8 < ((k / 8 : Nat) : Int) + 1 := by omega
        have HG := Lib.hid hgrow
        have HO := Lib.hid hown1
        clear hcg hgrow hown1 hat hown hck hn0
        go_wp2_with fail
        go_region
        go_wp2_with fail
        have hst := (hown2.stored (k / 8) (.int .u8 (bits .or .u8 0 (x * 2 ^ 7 % 256)))).1
        rw [← u8s_set] at hst
        have hpk' := of_new HP.out hkL H8.out
        rw [HX.out] at hpk'
        have hq' := HQ.out
        have e7 : 7 - k % 8 = 7 := by have := H8.out; omega
        rw [e7]
        go_roundw
        case rel =>
          refine ⟨k + 1, some ⟨g', 0, none⟩, cap, (B ++ [0]).set (k / 8) (bits .or .u8 0 (x * 2 ^ 7 % 256)), by omega, by go_num, ?_, ?_, hpk', (hbel1.setCell (p := ⟨g', k / 8, none⟩) hbg _).drew⟩
          · rw [List.length_set, List.length_append, hq']; rfl
          · rw [List.length_set, List.length_append, hq']; exact hst
        case measure => simp [intOf]; omega
      · obtain ⟨g, rfl, hbg, hlg, hcg, hfg⟩ := own_form hown (by have := HL.out; omega)
        have hz8 : ((k : Int) % 8 == 0) = false := by rw [beq_eq_false_iff_ne]; omega
        have hqv : q = k / 8 + 1 := by have := HL.out; omega
        have hcg' := hcg (k / 8) (by omega)
        have hq8 : (k : Int) / 8 < (q : Int) := by omega
        have H8 := Lib.hid h8
        clear h8 hcg hqv
        go_wp2_with fail
        go_region
        go_wp2_with fail
        have hst := (hown.stored (k / 8) (.int .u8 (bits .or .u8 (nth B (k / 8)) (x * 2 ^ (7 - k % 8) % 256)))).1
        rw [← u8s_set] at hst
        have hpk' := of_in HP.out hkL H8.out
        rw [HX.out] at hpk'
        have hq' := HQ.out
        go_roundw
        case rel =>
          refine ⟨k + 1, some ⟨g, 0, none⟩, c', B.set (k / 8) (bits .or .u8 (nth B (k / 8)) (x * 2 ^ (7 - k % 8) % 256)), by omega, by go_num, ?_, ?_, hpk', (hbel.setCell (p := ⟨g, k / 8, none⟩) hbg _).drew⟩
          · rw [List.length_set, hq']
          · rw [List.length_set, hq']; exact hst
        case measure => simp [intOf]; omega

end Go.Proofs.Yteemncpmcfflmaa
