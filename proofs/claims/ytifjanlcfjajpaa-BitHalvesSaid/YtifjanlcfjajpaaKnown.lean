/-
  The statements' own helpers: known (the chapter's examples), lent, some.
-/
import Derived.Test.YtifjanlcfjajpaaRefD
namespace Go.Proofs.Ytifjanlcfjajpaa
open Go.RowKit Pl
set_option linter.unusedVariables false

theorem packs_decide {B : List Int} {L : List Bool} (h1 : B.length = (L.length + 7) / 8) (h2 : B.all (fun x => decide (0 ≤ x) && decide (x < 256)) = true) (h3 : (List.range (8 * B.length)).all (fun i => bitAt B i == L.getD i false) = true) : Packs B L := by
  refine ⟨h1, fun x hx => ?_, fun i => ?_⟩
  · have := List.all_eq_true.1 h2 x hx
    simpa using this
  · by_cases h : i < 8 * B.length
    · have := List.all_eq_true.1 h3 i (by simpa using h)
      simpa using this
    · rw [bitAt_far (by omega), getD_far _ _ (by omega)]

theorem Rd.one (w : World) (x : Int) (t : TypeId) : Rd (w.alloc (.cells #[.int .u8 x] t)) (some ⟨w.heap.size, 0, none⟩) [x] := by
  refine .inr ⟨w.heap.size, 0, rfl, by simp, fun i hi => ?_⟩
  have : i = 0 := by simpa using hi
  subst this
  rw [cell_of_row _ _ _ _ _ _ (heap_alloc_new w _)]
  rfl

theorem u64_small {v : Nat} (h : v < 1000000) : U64 (v : Int) := ⟨by omega, by omega⟩

set_option maxRecDepth 100000 in
set_option maxHeartbeats 2000000 in
theorem known_any (w : World) : Calls Try.prog 12 #[] w fun e w' => e = .returned (.bool true) ∧ Below w.heap.size w w' := by
  have P1 : ∀ wx, Calls Try.prog 14 #[.agg #[.slice none 0 0, .int .i64 0], .int .u64 5, .int .i64 3] wx (RetBits 5 .u16 (nbits 5 3) wx) :=
    fun wx => put_sound none 0 [] [] 5 3 wx (Rd.nil wx none) packs_nil (by simp) (u64_small (by decide)) (by decide)
  have HP1 := Lib.hid P1
  clear P1
  obtain ⟨L1, hL1⟩ : ∃ L, nbits 5 3 = L := ⟨_, rfl⟩
  rw [hL1] at HP1
  have HL1 := Lib.hid hL1
  obtain ⟨m1, hm1⟩ : ∃ m, L1.length = m := ⟨_, rfl⟩
  have HM1 := Lib.hid hm1
  clear hL1 hm1
  go_enter Try.func12, Try.ntmps12
  go_wp2_with fail
  refine (HP1.out _).mono ?_
  rintro e w1 ⟨A1, c1, B1, rfl, hp1, hown1, hb1⟩
  have HPK1 := Lib.hid hp1
  have HB1 := Lib.hid (by have := hp1.len; have h2 := congrArg List.length HL1.out; rw [nbits_length] at h2; omega : (B1.length : Int) ≤ 1000)
  have hr1 := Rd.of_own hown1
  go_wp2_with fail
  refine (put_sound A1 c1 B1 L1 1 6 _ (hr1.alloc _) HPK1.out (by have := HB1.out; omega) (u64_small (by decide)) (by decide)).mono ?_
  rintro e w2 ⟨A2, c2, B2, rfl, hp2, hown2, hb2⟩
  have hL2 : B2 = [160, 128] ∧ (L1 ++ nbits 1 6) = [true, false, true, false, false, false, false, false, true] := by
    have h2 : L1 ++ nbits 1 6 = [true, false, true, false, false, false, false, false, true] := by rw [← HL1.out]; decide
    rw [h2] at hp2
    exact ⟨packs_inj hp2 (packs_decide (by decide) (by decide) (by decide)), h2⟩
  obtain ⟨rfl, hLL⟩ := hL2
  rw [hLL] at hp2
  have HPK2 := Lib.hid hp2
  have hr2 := Rd.of_own hown2
  rw [hLL]
  have hbw2 : Below w.heap.size w w2 := (hb1.alloc (by have := hb1.size; omega) _).trans (hb2.mono (by have := hb1.size; simp; omega))
  obtain ⟨g, hA2, hbg, hlg, hcg, _⟩ := own_form hown2 (by decide)
  subst hA2
  have hg0 : w2.cell? ⟨g, 0, none⟩ = some (.int .u8 160) := hcg 0 (by decide)
  have hg1 : w2.cell? ⟨g, 1, none⟩ = some (.int .u8 128) := hcg 1 (by decide)
  have G1 : ∀ wx, Rd wx (some ⟨g, 0, none⟩) [160, 128] → Calls Try.prog 20 #[.agg #[.slice (some ⟨g, 0, none⟩) 2 c2, .int .i64 9], .int .i64 0, .int .i64 3] wx (RetNum .u16 5 0 wx) :=
    fun wx h => by
      have := get_sound (some ⟨g, 0, none⟩) c2 [160, 128] [true, false, true, false, false, false, false, false, true] 0 3 wx h HPK2.out (by decide) (by decide) (by decide)
      rw [show val (sub [true, false, true, false, false, false, false, false, true] 0 3) = 5 from by decide] at this
      exact this
  have G2 : ∀ wx, Rd wx (some ⟨g, 0, none⟩) [160, 128] → Calls Try.prog 20 #[.agg #[.slice (some ⟨g, 0, none⟩) 2 c2, .int .i64 9], .int .i64 8, .int .i64 2] wx (RetNum .u16 0 10 wx) :=
    fun wx h => by
      have := get_far (some ⟨g, 0, none⟩) c2 [160, 128] [true, false, true, false, false, false, false, false, true] 8 2 wx h HPK2.out (by decide) (by decide) (by decide) (by decide)
      exact this
  have S3 : ∀ wx A, Rd wx A [161] → Calls Try.prog 17 #[.agg #[.slice A 1 1, .int .i64 3]] wx fun e w' => e = .returned (.bool false) ∧ Below wx.heap.size wx w' :=
    fun wx A h => by
      have := sound_any A 1 [161] 3 wx h (by intro x hx; simp at hx; subst hx; decide) (by decide) (by decide)
      rw [show sndB [161] 3 = false from by decide] at this
      exact this
  have HG1 := Lib.hid G1
  have HG2 := Lib.hid G2
  have HS3 := Lib.hid S3
  clear hLL hown1 hr1 hp1 hb1 hb2 hp2 hcg hown2 G1 G2 S3
  go_wp2_with fail
  refine (HG1.out _ (hr2.alloc _)).mono ?_
  rintro e w3 ⟨rfl, hb3⟩
  have hc3 := hb3.cell (p := ⟨w2.heap.size, 0, none⟩) (by simp)
  have hc4 := hb3.cell (p := ⟨w2.heap.size, 1, none⟩) (by simp)
  have hk0 := (hb3.cell (p := ⟨g, 0, none⟩) (by simp; omega)).trans ((World.cell?_alloc_lt _ _ _ (by simp; omega)).trans hg0)
  have hk1 := (hb3.cell (p := ⟨g, 1, none⟩) (by simp; omega)).trans ((World.cell?_alloc_lt _ _ _ (by simp; omega)).trans hg1)
  have hr3 := (hr2.alloc _).below hb3
  have hz3 : w2.heap.size < w3.heap.size := by have := hb3.size; simp at this; omega
  have hbw3 : Below w.heap.size w w3 := (hbw2.alloc (by have := hbw2.size; omega) _).trans (hb3.mono (by have := hbw2.size; simp; omega))
  clear hg0 hg1 hr2 hb3
  go_wp2_with fail
  refine (HG2.out _ hr3).mono ?_
  rintro e w4 ⟨rfl, hb4⟩
  have hd3 := (hb4.cell (p := ⟨w2.heap.size, 0, none⟩) (by simp; omega)).trans hc3
  have hd4 := (hb4.cell (p := ⟨w2.heap.size, 1, none⟩) (by simp; omega)).trans hc4
  have hj0 := (hb4.cell (p := ⟨g, 0, none⟩) (by simp; omega)).trans hk0
  have hj1 := (hb4.cell (p := ⟨g, 1, none⟩) (by simp; omega)).trans hk1
  have hbw4 : Below w.heap.size w w4 := hbw3.trans (hb4.mono (by have := hbw3.size; omega))
  clear hc3 hc4 hk0 hk1 hr3 hb4
  go_wp2_with fail
  refine (HS3.out _ _ (Rd.one w4 161 _)).mono ?_
  rintro e w5 ⟨rfl, hb5⟩
  go_wp2_with fail
  go_ret
  exact ⟨rfl, (hbw4.alloc (by have := hbw4.size; omega) _).trans (hb5.mono (by have := hbw4.size; simp; omega))⟩

/-- The call answers the same bytes in a row of its own, and the same number. -/
def RetLent (B : List Int) (N : Int) (w : World) (e : Ending) (w' : World) : Prop :=
  ∃ A c, e = .returned (.agg #[.slice A B.length c, .int .i64 N]) ∧ w'.ownsRow w.heap.size 5 1 (.slice A B.length c) B.length (u8s B) ∧ Below w.heap.size w w'

set_option maxHeartbeats 1000000 in
theorem lent_any (A : Option Addr) (c : Nat) (B : List Int) (N : Int) (w : World) (hr : Rd w A B) (hl : (B.length : Int) ≤ 100000000) :
    Calls Try.prog 16 #[.agg #[.slice A B.length c, .int .i64 N]] w (RetLent B N w) := by
  obtain ⟨i0, hi, hz0, hz1, hzb⟩ := info_parts info_u8'
  go_enter Try.func16, Try.ntmps16
  go_wp2_with (at_builtin; refine wpList_append_rd _ rfl _ _ 22 rfl (w.heap.size + 2) 5 i0 (.int .u8 0) Try.underlying22 hi hz0 hz1 hzb rfl (.slice none 0 0) 0 [] rfl (World.ownsRow_nil _ _ _ _) A c B rfl ((hr.alloc _).alloc _) (by omega) (by simp) ?_; intro v' w1 hown1 hgrow hat; have hb1 : Below (w.heap.size + 2) ((w.alloc (.cells #[.slice A B.length c, .int .i64 N] 24)).alloc (.cells #[.slice none 0 0, .int .i64 0] 24)) w1 := (Below.refl _ _).grown hgrow (by simp) (fun k hk => by simp [Value.ownBlock] at hk); have hc0 := hb1.cell (p := ⟨w.heap.size, 1, none⟩) (by simp); have hc1 := hb1.cell (p := ⟨w.heap.size + 1, 0, none⟩) (by simp); have hc2 := hb1.cell (p := ⟨w.heap.size + 1, 1, none⟩) (by simp); have hf1 := hb1.frozen (p := ⟨w.heap.size + 1, 0, none⟩) (by simp); have hf2 := hb1.frozen (p := ⟨w.heap.size + 1, 1, none⟩) (by simp); obtain ⟨A9, c9, hv9, _⟩ := own_shape hown1; rw [hv9, Nat.zero_add, List.nil_append] at hown1; rw [hv9, Nat.zero_add]; clear hv9)
  refine bodyPost_ret (v := .agg #[.slice A9 B.length c9, .int .i64 N]) (by simp [results, Try.results16, go_sem, hc1, hc2]) rfl ?_
  refine ⟨A9, c9, rfl, ?_, ?_⟩
  · exact own_far (own_far (own_base hown1 (by omega)) (fun e => by have := hown1.lt _ e; simp at this) _) (fun e => by have := hown1.lt _ e; simp at this) _
  · exact (((((Below.refl _ _).alloc (Nat.le_refl _) _).alloc (by simp) _).trans (hb1.mono (by omega))).setCell (by simp) _).setCell (by simp) _

/-- How many bits 'some' takes. -/
def someN (B : List Int) (N : Int) : Nat := min N.toNat (8 * B.length)

set_option maxRecDepth 100000 in
set_option maxHeartbeats 2000000 in
theorem some_any (A : Option Addr) (c : Nat) (B : List Int) (N : Int) (w : World) (hr : Rd w A B) (hB : Byts B) (hN : -9223372036854775808 ≤ N ∧ N ≤ 9223372036854775807) (hl : (B.length : Int) ≤ 1000000) :
    Calls Try.prog 13 #[.agg #[.slice A B.length c, .int .i64 N]] w (RetOf 5 (bitsOf B (someN B N)) w) := by
  obtain ⟨i0, hi, hz0, hz1, hzb⟩ := info_parts info_u8'
  obtain ⟨n, hn⟩ : ∃ n, B.length = n := ⟨_, rfl⟩
  obtain ⟨t, ht⟩ : ∃ t, someN B N = t := ⟨_, rfl⟩
  obtain ⟨L, hL⟩ : ∃ L, bitsOf B t = L := ⟨_, rfl⟩
  have hLt : L.length = t := by rw [← hL, bitsOf_length]
  have ht8 : t ≤ 8 * n := by rw [← ht, ← hn]; exact Nat.min_le_right _ _
  have hcase : (N < 0 ∧ t = 0) ∨ (0 ≤ N ∧ N ≤ 8 * (n : Int) ∧ (t : Int) = N) ∨ (0 ≤ N ∧ 8 * (n : Int) < N ∧ t = 8 * n) := by
    unfold someN at ht
    rw [hn] at ht
    omega
  have hget : ∀ i, i < t → L.getD i false = bitAt B i := fun i hi => by rw [← hL, bitsOf_getD, if_pos hi]
  rw [ht, hL, hn]
  have HN := Lib.hid hn
  have HL := Lib.hid hLt
  have HG := Lib.hid hget
  rw [hn] at hl
  clear hn ht hL hLt hget
  rcases hcase with ⟨h1, rfl⟩ | ⟨h1, h2, rfl⟩ | ⟨h1, h2, rfl⟩
  · go_enter Try.func13, Try.ntmps13
    go_wp2_with fail
    go_loopw [4, 5] (fun l i wr => ∃ k A' c', k ≤ 0 ∧ i = .int .i64 (k : Nat) ∧ l = .slice A' k c' ∧ wr.ownsRow (w.heap.size + 2) 5 1 (.slice A' k c') k (u8s (ones (L.take k))) ∧ Below (w.heap.size + 2) ((w.alloc (.cells #[.slice A n c, .int .i64 N] 24)).alloc (.cells #[.slice none 0 0, .int .i64 0] 24)) wr) (fun _ i _ => 0 - (intOf i).toNat)
    case atStart => exact ⟨0, none, 0, Nat.zero_le _, rfl, rfl, World.ownsRow_nil _ _ _ _, Below.refl _ _⟩
    case round =>
      obtain ⟨k, A', c', hk, rfl, rfl, hown, hbel⟩ := hrel
      have hbw : Below w.heap.size w wr := ((((Below.refl _ _).alloc (Nat.le_refl _) _).alloc (by simp) _).trans (hbel.mono (by omega)))
      have hcr0 : wr.cell? ⟨w.heap.size, 0, none⟩ = some (.slice A n c) := (hbel.cell (by simp)).trans (by simp)
      have hcr1 : wr.cell? ⟨w.heap.size, 1, none⟩ = some (.int .i64 N) := (hbel.cell (by simp)).trans (by simp)
      have hcr2 : wr.cell? ⟨w.heap.size + 1, 0, none⟩ = some (.slice none 0 0) := (hbel.cell (by simp)).trans (by simp)
      have hcr3 : wr.cell? ⟨w.heap.size + 1, 1, none⟩ = some (.int .i64 0) := (hbel.cell (by simp)).trans (by simp)
      have hfr2 : wr.frozen? ⟨w.heap.size + 1, 0, none⟩ = false := (hbel.frozen (by simp)).trans (by simp)
      have hfr3 : wr.frozen? ⟨w.heap.size + 1, 1, none⟩ = false := (hbel.frozen (by simp)).trans (by simp)
      have hzr : w.heap.size + 1 < wr.heap.size := by have := hbel.size; simp at this; omega
      have hrd := hr.below hbw
      have hk64 : (k : Int) ≤ 8000000 := by omega
      obtain rfl : k = 0 := by omega
      · have hd9 : True := trivial
        have hL0 : L.take 0 = L := List.take_of_length_le (by have := HL.out; omega)
        have hlen : L.length = 0 := by have := HL.out; omega
        rw [hL0] at hown
        have hof := rof_any A' c' L wr (Rd.of_own hown) (by rw [hlen]; omega)
        rw [hlen] at hof
        have HOF := Lib.hid hof
        have HLEN := Lib.hid hlen
        clear hof hlen hL0 hown hcr0 hcr1
        go_wp2_with fail
        refine HOF.out.mono ?_
        rintro e w4 ⟨A4, c4, B4, rfl, hp4, hown4, hb4⟩
        have hcs0 := (hb4.cell (p := ⟨w.heap.size + 1, 0, none⟩) hzr).trans hcr2
        have hcs1 := (hb4.cell (p := ⟨w.heap.size + 1, 1, none⟩) hzr).trans hcr3
        have hfs0 := (hb4.frozen (p := ⟨w.heap.size + 1, 0, none⟩) hzr).trans hfr2
        have hfs1 := (hb4.frozen (p := ⟨w.heap.size + 1, 1, none⟩) hzr).trans hfr3
        go_wp2_with fail
        refine bodyPost_ret (v := .agg #[.slice A4 B4.length c4, .int .i64 (L.length : Int)]) (by simp [results, Try.results13, go_sem, hcs0, hcs1]) rfl ?_
        refine ⟨A4, c4, B4, rfl, hp4, ?_, ?_⟩
        · exact own_far (own_far (own_base hown4 (by omega)) (fun e => by have := hown4.lt _ e; simp at this; omega) _) (fun e => by have := hown4.lt _ e; simp at this; omega) _
        · exact (((hbw.trans (hb4.mono (by omega))).setCell (by simp) _).setCell (by simp) _)
  · go_enter Try.func13, Try.ntmps13
    go_wp2_with fail
    go_loopw [4, 5] (fun l i wr => ∃ k A' c', k ≤ t ∧ i = .int .i64 (k : Nat) ∧ l = .slice A' k c' ∧ wr.ownsRow (w.heap.size + 2) 5 1 (.slice A' k c') k (u8s (ones (L.take k))) ∧ Below (w.heap.size + 2) ((w.alloc (.cells #[.slice A n c, .int .i64 (t : Int)] 24)).alloc (.cells #[.slice none 0 0, .int .i64 0] 24)) wr) (fun _ i _ => t - (intOf i).toNat)
    case atStart => exact ⟨0, none, 0, Nat.zero_le _, rfl, rfl, World.ownsRow_nil _ _ _ _, Below.refl _ _⟩
    case round =>
      obtain ⟨k, A', c', hk, rfl, rfl, hown, hbel⟩ := hrel
      have hbw : Below w.heap.size w wr := ((((Below.refl _ _).alloc (Nat.le_refl _) _).alloc (by simp) _).trans (hbel.mono (by omega)))
      have hcr0 : wr.cell? ⟨w.heap.size, 0, none⟩ = some (.slice A n c) := (hbel.cell (by simp)).trans (by simp)
      have hcr1 : wr.cell? ⟨w.heap.size, 1, none⟩ = some (.int .i64 (t : Int)) := (hbel.cell (by simp)).trans (by simp)
      have hcr2 : wr.cell? ⟨w.heap.size + 1, 0, none⟩ = some (.slice none 0 0) := (hbel.cell (by simp)).trans (by simp)
      have hcr3 : wr.cell? ⟨w.heap.size + 1, 1, none⟩ = some (.int .i64 0) := (hbel.cell (by simp)).trans (by simp)
      have hfr2 : wr.frozen? ⟨w.heap.size + 1, 0, none⟩ = false := (hbel.frozen (by simp)).trans (by simp)
      have hfr3 : wr.frozen? ⟨w.heap.size + 1, 1, none⟩ = false := (hbel.frozen (by simp)).trans (by simp)
      have hzr : w.heap.size + 1 < wr.heap.size := by have := hbel.size; simp at this; omega
      have hrd := hr.below hbw
      have hk64 : (k : Int) ≤ 8000000 := by omega
      by_cases h0 : k = t
      · have hd9 : decide (k < t) = false := by simp; omega
        have hL0 : L.take k = L := List.take_of_length_le (by have := HL.out; omega)
        have hlen : L.length = k := by have := HL.out; omega
        rw [hL0] at hown
        have hof := rof_any A' c' L wr (Rd.of_own hown) (by rw [hlen]; omega)
        rw [hlen] at hof
        have HOF := Lib.hid hof
        have HLEN := Lib.hid hlen
        clear hof hlen hL0 hown h0 hcr0 hcr1
        go_wp2_with fail
        refine HOF.out.mono ?_
        rintro e w4 ⟨A4, c4, B4, rfl, hp4, hown4, hb4⟩
        have hcs0 := (hb4.cell (p := ⟨w.heap.size + 1, 0, none⟩) hzr).trans hcr2
        have hcs1 := (hb4.cell (p := ⟨w.heap.size + 1, 1, none⟩) hzr).trans hcr3
        have hfs0 := (hb4.frozen (p := ⟨w.heap.size + 1, 0, none⟩) hzr).trans hfr2
        have hfs1 := (hb4.frozen (p := ⟨w.heap.size + 1, 1, none⟩) hzr).trans hfr3
        go_wp2_with fail
        refine bodyPost_ret (v := .agg #[.slice A4 B4.length c4, .int .i64 (L.length : Int)]) (by simp [results, Try.results13, go_sem, hcs0, hcs1]) rfl ?_
        refine ⟨A4, c4, B4, rfl, hp4, ?_, ?_⟩
        · exact own_far (own_far (own_base hown4 (by omega)) (fun e => by have := hown4.lt _ e; simp at this; omega) _) (fun e => by have := hown4.lt _ e; simp at this; omega) _
        · exact (((hbw.trans (hb4.mono (by omega))).setCell (by simp) _).setCell (by simp) _)
      · have hd9 : decide (k < t) = true := by simp; omega
        have hkt : k < t := by omega
        have hbit := rbit_any A c B (t : Int) k wr hrd hB (by have := HN.out; omega) (by have := HN.out; omega)
        rw [← HG.out k hkt, HN.out] at hbit
        have HB := Lib.hid hbit
        obtain ⟨b, hb⟩ : ∃ b, L.getD k false = b := ⟨_, rfl⟩
        have HBB := Lib.hid hb
        have hmx : k + 1 ≤ maxLen := by unfold maxLen; omega
        have hby : (k + 1) * 1 ≤ 140737488355328 := by omega
        clear hbit hb h0
        go_wp2_with fail
        refine HB.out.mono ?_
        rintro e w2 ⟨rfl, hb3⟩
        rw [HBB.out]
        have hown1 : w2.ownsRow (w.heap.size + 2) 5 1 (.slice A' k c') k (u8s (ones (L.take k))) := hown.kept (row := none) ⟨hb3.os, hb3.tape, hb3.output, hb3.size, fun j hj _ => hb3.block j hj⟩ (by cases (Value.slice A' k c').ownBlock <;> simp)
        have hz2' : w.heap.size + 2 ≤ w2.heap.size := by have := hb3.size; omega
        go_wp2_with (at_builtin; refine wpList_append_lies _ rfl _ _ 22 rfl (w.heap.size + 2) 5 i0 (.int .u8 0) 1 1 Try.underlying22 hi hz0 hz1 hzb rfl (by decide) (.slice A' k c') k (u8s (ones (L.take k))) rfl (hown1.alloc _) ⟨w2.heap.size, 0, none⟩ 1 1 [_] rfl rfl (World.news_of_block (heap_alloc_new w2 _)) (by simp [Value.oneCell']) (by decide) hmx hby (by simp; omega) (w2.heap.size + 1) (by simp) ?_; intro gg cap w3 hown2 hgrow hat hlt2)
        go_roundw
        case rel =>
          refine ⟨k + 1, some ⟨gg, 0, none⟩, cap, by omega, by go_num, rfl, ?_, ?_⟩
          · rw [ones_take (by have := HL.out; omega), HBB.out]; exact hown2
          · exact (((hbel.trans (hb3.mono (by omega))).alloc (by omega) _).grown hgrow (by simp; omega) (fun j hj => (hown1.lt j hj).1))
        case measure => simp [intOf]; omega
  · go_enter Try.func13, Try.ntmps13
    go_wp2_with fail
    go_loopw [4, 5] (fun l i wr => ∃ k A' c', k ≤ 8 * n ∧ i = .int .i64 (k : Nat) ∧ l = .slice A' k c' ∧ wr.ownsRow (w.heap.size + 2) 5 1 (.slice A' k c') k (u8s (ones (L.take k))) ∧ Below (w.heap.size + 2) ((w.alloc (.cells #[.slice A n c, .int .i64 N] 24)).alloc (.cells #[.slice none 0 0, .int .i64 0] 24)) wr) (fun _ i _ => 8 * n - (intOf i).toNat)
    case atStart => exact ⟨0, none, 0, Nat.zero_le _, rfl, rfl, World.ownsRow_nil _ _ _ _, Below.refl _ _⟩
    case round =>
      obtain ⟨k, A', c', hk, rfl, rfl, hown, hbel⟩ := hrel
      have hbw : Below w.heap.size w wr := ((((Below.refl _ _).alloc (Nat.le_refl _) _).alloc (by simp) _).trans (hbel.mono (by omega)))
      have hcr0 : wr.cell? ⟨w.heap.size, 0, none⟩ = some (.slice A n c) := (hbel.cell (by simp)).trans (by simp)
      have hcr1 : wr.cell? ⟨w.heap.size, 1, none⟩ = some (.int .i64 N) := (hbel.cell (by simp)).trans (by simp)
      have hcr2 : wr.cell? ⟨w.heap.size + 1, 0, none⟩ = some (.slice none 0 0) := (hbel.cell (by simp)).trans (by simp)
      have hcr3 : wr.cell? ⟨w.heap.size + 1, 1, none⟩ = some (.int .i64 0) := (hbel.cell (by simp)).trans (by simp)
      have hfr2 : wr.frozen? ⟨w.heap.size + 1, 0, none⟩ = false := (hbel.frozen (by simp)).trans (by simp)
      have hfr3 : wr.frozen? ⟨w.heap.size + 1, 1, none⟩ = false := (hbel.frozen (by simp)).trans (by simp)
      have hzr : w.heap.size + 1 < wr.heap.size := by have := hbel.size; simp at this; omega
      have hrd := hr.below hbw
      have hk64 : (k : Int) ≤ 8000000 := by omega
      by_cases h0 : k = 8 * n
      · have hd9 : decide ((k : Int) < 8 * (n : Int)) = false := by simp; omega
        have hL0 : L.take k = L := List.take_of_length_le (by have := HL.out; omega)
        have hlen : L.length = k := by have := HL.out; omega
        rw [hL0] at hown
        have hof := rof_any A' c' L wr (Rd.of_own hown) (by rw [hlen]; omega)
        rw [hlen] at hof
        have HOF := Lib.hid hof
        have HLEN := Lib.hid hlen
        clear hof hlen hL0 hown h0 hcr0 hcr1
        go_wp2_with fail
        refine HOF.out.mono ?_
        rintro e w4 ⟨A4, c4, B4, rfl, hp4, hown4, hb4⟩
        have hcs0 := (hb4.cell (p := ⟨w.heap.size + 1, 0, none⟩) hzr).trans hcr2
        have hcs1 := (hb4.cell (p := ⟨w.heap.size + 1, 1, none⟩) hzr).trans hcr3
        have hfs0 := (hb4.frozen (p := ⟨w.heap.size + 1, 0, none⟩) hzr).trans hfr2
        have hfs1 := (hb4.frozen (p := ⟨w.heap.size + 1, 1, none⟩) hzr).trans hfr3
        go_wp2_with fail
        refine bodyPost_ret (v := .agg #[.slice A4 B4.length c4, .int .i64 (L.length : Int)]) (by simp [results, Try.results13, go_sem, hcs0, hcs1]) rfl ?_
        refine ⟨A4, c4, B4, rfl, hp4, ?_, ?_⟩
        · exact own_far (own_far (own_base hown4 (by omega)) (fun e => by have := hown4.lt _ e; simp at this; omega) _) (fun e => by have := hown4.lt _ e; simp at this; omega) _
        · exact (((hbw.trans (hb4.mono (by omega))).setCell (by simp) _).setCell (by simp) _)
      · have hd9 : decide ((k : Int) < 8 * (n : Int)) = true := by simp; omega
        have hkt : k < 8 * n := by omega
        have hbit := rbit_any A c B N k wr hrd hB (by have := HN.out; omega) (by have := HN.out; omega)
        rw [← HG.out k hkt, HN.out] at hbit
        have HB := Lib.hid hbit
        obtain ⟨b, hb⟩ : ∃ b, L.getD k false = b := ⟨_, rfl⟩
        have HBB := Lib.hid hb
        have hmx : k + 1 ≤ maxLen := by unfold maxLen; omega
        have hby : (k + 1) * 1 ≤ 140737488355328 := by omega
        clear hbit hb h0
        go_wp2_with fail
        refine HB.out.mono ?_
        rintro e w2 ⟨rfl, hb3⟩
        rw [HBB.out]
        have hown1 : w2.ownsRow (w.heap.size + 2) 5 1 (.slice A' k c') k (u8s (ones (L.take k))) := hown.kept (row := none) ⟨hb3.os, hb3.tape, hb3.output, hb3.size, fun j hj _ => hb3.block j hj⟩ (by cases (Value.slice A' k c').ownBlock <;> simp)
        have hz2' : w.heap.size + 2 ≤ w2.heap.size := by have := hb3.size; omega
        go_wp2_with (at_builtin; refine wpList_append_lies _ rfl _ _ 22 rfl (w.heap.size + 2) 5 i0 (.int .u8 0) 1 1 Try.underlying22 hi hz0 hz1 hzb rfl (by decide) (.slice A' k c') k (u8s (ones (L.take k))) rfl (hown1.alloc _) ⟨w2.heap.size, 0, none⟩ 1 1 [_] rfl rfl (World.news_of_block (heap_alloc_new w2 _)) (by simp [Value.oneCell']) (by decide) hmx hby (by simp; omega) (w2.heap.size + 1) (by simp) ?_; intro gg cap w3 hown2 hgrow hat hlt2)
        go_roundw
        case rel =>
          refine ⟨k + 1, some ⟨gg, 0, none⟩, cap, by omega, by go_num, rfl, ?_, ?_⟩
          · rw [ones_take (by have := HL.out; omega), HBB.out]; exact hown2
          · exact (((hbel.trans (hb3.mono (by omega))).alloc (by omega) _).grown hgrow (by simp; omega) (fun j hj => (hown1.lt j hj).1))
        case measure => simp [intOf]; omega

end Go.Proofs.Ytifjanlcfjajpaa
