/-
  zig.Get: the number at a place.
-/
import Derived.Test.YteemncpmcfflmaaZgWh
namespace Go.Proofs.Yteemncpmcfflmaa
open Go.RowKit Pl
set_option linter.unusedVariables false

/-- The place behind the number that stands at a place; the number. -/
def zgN (L : List Bool) (p : Nat) : Nat := val (sub L (whQ L p) (wid (whK L p)))
/-- Are there fewer bits than the number takes? -/
def Short (L : List Bool) (p : Nat) : Prop := WhE L p ∨ L.length < whQ L p + wid (whK L p)
def RetZ (k : IntKind) (v q x : Int) (w : World) (e : Ending) (w' : World) : Prop := e = .returned (.tuple #[.int .i64 v, .int .i64 q, .int k x]) ∧ Below w.heap.size w w'
/-- What Get answers. -/
def ZgSays (k : IntKind) (L : List Bool) (p : Nat) (w : World) (e : Ending) (w' : World) : Prop :=
  (Short L p → RetZ k 0 0 10 w e w') ∧ (¬ Short L p → row (zgN L p) ≠ whK L p → RetZ k 0 0 11 w e w') ∧ (¬ Short L p → row (zgN L p) = whK L p → RetZ k (unfold (zgN L p)) ((whQ L p + wid (whK L p) : Nat) : Int) 0 w e w')

set_option maxHeartbeats 1000000 in
theorem zget_err (A : Option Addr) (c : Nat) (B : List Int) (N p x : Int) (w : World) (hr : Rd w A B) (hx : x = 10 ∨ x = 11)
    (hG : ∀ wx, Rd wx A B → Calls Try.prog 28 #[.agg #[.slice A B.length c, .int .i64 N], .int .i64 p] wx (RetWh 0 0 x wx)) :
    Calls Try.prog 18 #[.agg #[.slice A B.length c, .int .i64 N], .int .i64 p] w (RetZ .u16 0 0 x w) := by
  have HG := Lib.hid hG
  obtain ⟨n, hn⟩ : ∃ n, B.length = n := ⟨_, rfl⟩
  rw [hn] at HG
  rw [hn]
  clear hG hn
  rcases hx with rfl | rfl
  all_goals
    go_enter Try.func18, Try.ntmps18
    go_wp2_with fail
    refine (HG.out _ (hr.alloc _)).mono ?_
    rintro e w1 ⟨rfl, hb1⟩
    go_wp2_with fail
    go_ret3
    exact ⟨rfl, ((Below.refl _ _).alloc (Nat.le_refl _) _).trans (hb1.mono (by simp))⟩

theorem whK_le (L : List Bool) (p : Nat) : whK L p ≤ 5 := Nat.min_le_right _ _

theorem idx0 (w : World) : (Instr.index 63 (.agg #[.int .u64 0, .int .i64 1, .int .i64 0, .int .u64 2, .int .i64 2, .int .i64 7, .int .u64 6, .int .i64 3, .int .i64 9, .int .u64 14, .int .i64 4, .int .i64 12, .int .u64 30, .int .i64 5, .int .i64 32, .int .u64 31, .int .i64 5, .int .i64 64]) (.int .i64 0)).run Try.prog w = .ok (.agg #[.int .u64 0, .int .i64 1, .int .i64 0]) w := by kernel_rfl
theorem fld0 (w : World) : (Instr.field 51 (.agg #[.int .u64 0, .int .i64 1, .int .i64 0]) 2).run Try.prog w = .ok (.int .i64 0) w := by kernel_rfl
theorem idx1 (w : World) : (Instr.index 63 (.agg #[.int .u64 0, .int .i64 1, .int .i64 0, .int .u64 2, .int .i64 2, .int .i64 7, .int .u64 6, .int .i64 3, .int .i64 9, .int .u64 14, .int .i64 4, .int .i64 12, .int .u64 30, .int .i64 5, .int .i64 32, .int .u64 31, .int .i64 5, .int .i64 64]) (.int .i64 1)).run Try.prog w = .ok (.agg #[.int .u64 2, .int .i64 2, .int .i64 7]) w := by kernel_rfl
theorem fld1 (w : World) : (Instr.field 51 (.agg #[.int .u64 2, .int .i64 2, .int .i64 7]) 2).run Try.prog w = .ok (.int .i64 7) w := by kernel_rfl
theorem idx2 (w : World) : (Instr.index 63 (.agg #[.int .u64 0, .int .i64 1, .int .i64 0, .int .u64 2, .int .i64 2, .int .i64 7, .int .u64 6, .int .i64 3, .int .i64 9, .int .u64 14, .int .i64 4, .int .i64 12, .int .u64 30, .int .i64 5, .int .i64 32, .int .u64 31, .int .i64 5, .int .i64 64]) (.int .i64 2)).run Try.prog w = .ok (.agg #[.int .u64 6, .int .i64 3, .int .i64 9]) w := by kernel_rfl
theorem fld2 (w : World) : (Instr.field 51 (.agg #[.int .u64 6, .int .i64 3, .int .i64 9]) 2).run Try.prog w = .ok (.int .i64 9) w := by kernel_rfl
theorem idx3 (w : World) : (Instr.index 63 (.agg #[.int .u64 0, .int .i64 1, .int .i64 0, .int .u64 2, .int .i64 2, .int .i64 7, .int .u64 6, .int .i64 3, .int .i64 9, .int .u64 14, .int .i64 4, .int .i64 12, .int .u64 30, .int .i64 5, .int .i64 32, .int .u64 31, .int .i64 5, .int .i64 64]) (.int .i64 3)).run Try.prog w = .ok (.agg #[.int .u64 14, .int .i64 4, .int .i64 12]) w := by kernel_rfl
theorem fld3 (w : World) : (Instr.field 51 (.agg #[.int .u64 14, .int .i64 4, .int .i64 12]) 2).run Try.prog w = .ok (.int .i64 12) w := by kernel_rfl
theorem idx4 (w : World) : (Instr.index 63 (.agg #[.int .u64 0, .int .i64 1, .int .i64 0, .int .u64 2, .int .i64 2, .int .i64 7, .int .u64 6, .int .i64 3, .int .i64 9, .int .u64 14, .int .i64 4, .int .i64 12, .int .u64 30, .int .i64 5, .int .i64 32, .int .u64 31, .int .i64 5, .int .i64 64]) (.int .i64 4)).run Try.prog w = .ok (.agg #[.int .u64 30, .int .i64 5, .int .i64 32]) w := by kernel_rfl
theorem fld4 (w : World) : (Instr.field 51 (.agg #[.int .u64 30, .int .i64 5, .int .i64 32]) 2).run Try.prog w = .ok (.int .i64 32) w := by kernel_rfl
theorem idx5 (w : World) : (Instr.index 63 (.agg #[.int .u64 0, .int .i64 1, .int .i64 0, .int .u64 2, .int .i64 2, .int .i64 7, .int .u64 6, .int .i64 3, .int .i64 9, .int .u64 14, .int .i64 4, .int .i64 12, .int .u64 30, .int .i64 5, .int .i64 32, .int .u64 31, .int .i64 5, .int .i64 64]) (.int .i64 5)).run Try.prog w = .ok (.agg #[.int .u64 31, .int .i64 5, .int .i64 64]) w := by kernel_rfl
theorem fld5 (w : World) : (Instr.field 51 (.agg #[.int .u64 31, .int .i64 5, .int .i64 64]) 2).run Try.prog w = .ok (.int .i64 64) w := by kernel_rfl

set_option maxRecDepth 100000 in
set_option maxHeartbeats 4000000 in
theorem zget_at (A : Option Addr) (c : Nat) (B : List Int) (L : List Bool) (p : Nat) (w : World) (hr : Rd w A B) (hp : Packs B L) (hl : (B.length : Int) ≤ 900000) (hpl : p ≤ L.length) :
    Calls Try.prog 18 #[.agg #[.slice A B.length c, .int .i64 (L.length : Int)], .int .i64 p] w (ZgSays .u16 L p w) := by
  have hLB := hp.len
  have hW := fun wx h => which_at A c B L p wx h hp hl hpl
  have hG := fun wx h => get_far A c B L (whQ L p : Int) (wid (whK L p) : Int) wx h hp (by omega)
  have hS := fun wx h => get_sound A c B L (whQ L p) (wid (whK L p)) wx h hp (by omega)
  have hk5 := whK_le L p
  have hq : whQ L p ≤ p + 6 := by unfold whQ; split <;> omega
  unfold ZgSays Short zgN
  obtain ⟨n, hn⟩ : ∃ n, B.length = n := ⟨_, rfl⟩
  obtain ⟨m, hm⟩ : ∃ n, L.length = n := ⟨_, rfl⟩
  obtain ⟨k, hk⟩ : ∃ k, whK L p = k := ⟨_, rfl⟩
  obtain ⟨q, hqq⟩ : ∃ k, whQ L p = k := ⟨_, rfl⟩
  obtain ⟨E, hE⟩ : ∃ E : Prop, WhE L p = E := ⟨_, rfl⟩
  obtain ⟨d, hd⟩ : ∃ k, wid k = k := ⟨0, rfl⟩
  rw [hn, hm, hk, hqq, hE] at hW
  rw [hn, hm, hk, hqq] at hG hS
  rw [hn, hm, hk, hqq, hE]
  rw [hk] at hk5
  rw [hqq] at hq
  have hwid : wid k ≤ 64 := (row_ok hk5).2.2
  obtain ⟨v, hv⟩ : ∃ v, val (sub L q (wid k)) = v := ⟨_, rfl⟩
  have hv64 : U64 (v : Int) := by
    have h1 := val_lt (sub L q (wid k))
    have h2 : (sub L q (wid k)).length ≤ wid k := by simp only [sub]; rw [List.length_take]; omega
    have h3 : 2 ^ (sub L q (wid k)).length ≤ 2 ^ 64 := Nat.pow_le_pow_right (by decide) (by omega)
    have h4 : (2 : Nat) ^ 64 = 18446744073709551616 := by decide
    simp only [U64]; omega
  rw [hv] at hS
  rw [hv]
  clear hd d
  have HW := Lib.hid hW
  have HG := Lib.hid (fun (h : m < q + wid k) wx hh => hG wx hh (by omega) (by omega) (.inr (by omega)))
  have HS := Lib.hid (fun (h : ¬ m < q + wid k) wx hh => hS wx hh (by omega) (by omega))
  have HV := Lib.hid hv64
  have hqI : (q : Int) ≤ 8000000 := by omega
  have hmI : (m : Int) ≤ 7900000 := by omega
  clear hp hl hpl hLB hW hG hS hn hm hk hqq hE hv hv64 hq hwid hmI
  go_enter Try.func18, Try.ntmps18
  go_wp2_with fail
  refine (HW.out _ (hr.alloc _)).mono ?_
  intro e w1 hwh
  by_cases hEE : E
  · obtain ⟨rfl, hb1⟩ := hwh.1 hEE
    go_wp2_with fail
    go_ret3
    have hbw : Below w.heap.size w w1 := ((Below.refl _ _).alloc (Nat.le_refl _) _).trans (hb1.mono (by simp))
    exact ⟨fun _ => ⟨rfl, hbw⟩, fun h => absurd (.inl hEE) h, fun h => absurd (.inl hEE) h⟩
  obtain ⟨rfl, hb1⟩ := hwh.2 hEE
  have hbw1 : Below w.heap.size w w1 := ((Below.refl _ _).alloc (Nat.le_refl _) _).trans (hb1.mono (by simp))
  have HX : Hid (Blk w1 w.heap.size 27 #[.slice A n c, .int .i64 (m : Int)]) := Lib.hid ((Blk.new w _ _).below hb1 (by simp))
  have HE := Lib.hid hEE
  clear hb1 hwh hEE
  go_upto_region 4 with fail
  go_cut [9] (fun s9 wx => s9 = .int .i64 (wid k : Int) ∧ Hid (Blk wx w.heap.size 27 #[.slice A n c, .int .i64 (m : Int)]) ∧ Below w.heap.size w wx)
  case first =>
    obtain rfl | rfl | rfl | rfl | rfl | rfl : k = 0 ∨ k = 1 ∨ k = 2 ∨ k = 3 ∨ k = 4 ∨ k = 5 := by omega
    · have hi := idx0
      have hi2 := fld0
      go_wp2_with fail
      refine (rows_any _).mono ?_
      rintro e w2 ⟨rfl, hb2⟩
      go_wp2_with fail
      go_meet
      exact ⟨rfl, Lib.hid (HX.out.below hb2 HX.out.lt), hbw1.trans (hb2.mono hbw1.size)⟩
    · have hi := idx1
      have hi2 := fld1
      go_wp2_with fail
      refine (rows_any _).mono ?_
      rintro e w2 ⟨rfl, hb2⟩
      go_wp2_with fail
      go_meet
      exact ⟨rfl, Lib.hid (HX.out.below hb2 HX.out.lt), hbw1.trans (hb2.mono hbw1.size)⟩
    · have hi := idx2
      have hi2 := fld2
      go_wp2_with fail
      refine (rows_any _).mono ?_
      rintro e w2 ⟨rfl, hb2⟩
      go_wp2_with fail
      go_meet
      exact ⟨rfl, Lib.hid (HX.out.below hb2 HX.out.lt), hbw1.trans (hb2.mono hbw1.size)⟩
    · have hi := idx3
      have hi2 := fld3
      go_wp2_with fail
      refine (rows_any _).mono ?_
      rintro e w2 ⟨rfl, hb2⟩
      go_wp2_with fail
      go_meet
      exact ⟨rfl, Lib.hid (HX.out.below hb2 HX.out.lt), hbw1.trans (hb2.mono hbw1.size)⟩
    · have hi := idx4
      have hi2 := fld4
      go_wp2_with fail
      refine (rows_any _).mono ?_
      rintro e w2 ⟨rfl, hb2⟩
      go_wp2_with fail
      go_meet
      exact ⟨rfl, Lib.hid (HX.out.below hb2 HX.out.lt), hbw1.trans (hb2.mono hbw1.size)⟩
    · have hi := idx5
      have hi2 := fld5
      go_wp2_with fail
      refine (rows_any _).mono ?_
      rintro e w2 ⟨rfl, hb2⟩
      go_wp2_with fail
      go_meet
      exact ⟨rfl, Lib.hid (HX.out.below hb2 HX.out.lt), hbw1.trans (hb2.mono hbw1.size)⟩
  case rest =>
    obtain ⟨rfl, HX, hbel⟩ := hcut
    have x0 := HX.out.cell 0
    have x1 := HX.out.cell 1
    have hrr := hr.below hbel
    obtain ⟨d, hd⟩ : ∃ d, wid k = d := ⟨_, rfl⟩
    rw [hd] at HG HS ⊢
    have hd64 : (d : Int) ≤ 64 := by have := (row_ok hk5).2.2; omega
    have HD := Lib.hid hd
    clear hd
    by_cases hsh : m < q + d
    · have HG' := Lib.hid (HG.out hsh)
      have HSH := Lib.hid hsh
      clear hsh HS HG
      go_wp2_with fail
      refine (HG'.out _ hrr).mono ?_
      rintro e w3 ⟨rfl, hb3⟩
      go_wp2_with fail
      go_ret3
      rw [HD.out]
      exact ⟨fun _ => ⟨rfl, hbel.trans (hb3.mono hbel.size)⟩, fun h => absurd (.inr HSH.out) h, fun h => absurd (.inr HSH.out) h⟩
    · have HS' := Lib.hid (HS.out hsh)
      have HSH : Hid (¬ (E ∨ m < q + d)) := Lib.hid (fun h => h.elim HE.out hsh)
      clear hsh HS HG
      go_wp2_with fail
      refine (HS'.out _ hrr).mono ?_
      rintro e w3 ⟨rfl, hb3⟩
      have hbw3 := hbel.trans (hb3.mono hbel.size)
      clear hb3 x0 x1
      go_wp2_with fail
      refine (first_any v _).mono ?_
      rintro e w4 ⟨rfl, hb4⟩
      have hbw4 := hbw3.trans (hb4.mono hbw3.size)
      clear hb4
      obtain ⟨r, hrw⟩ : ∃ r, row v = r := ⟨_, rfl⟩
      rw [hrw]
      have HRW := Lib.hid hrw
      have hr5 : (r : Int) ≤ 5 := by have := row_le v; omega
      clear hrw
      have hbz := hbw4.alloc hbw4.size (.cells #[.int .u64 (ahd r : Int), .int .i64 (mny r : Int), .int .i64 (wid r : Int)] 51)
      by_cases hne : r = k
      · have ht : ((r : Int) != (k : Int)) = false := by rw [bne_eq_false_iff_eq]; omega
        have HNE := Lib.hid hne
        clear hne
        go_wp2_with fail
        refine (unfold_any v _ HV.out).mono ?_
        rintro e w5 ⟨rfl, rfl⟩
        go_wp2_with fail
        go_ret3
        rw [HD.out]
        refine ⟨fun h => absurd h HSH.out, fun _ h => absurd (HRW.out.trans HNE.out) h, fun _ _ => ⟨?_, hbz⟩⟩
        rw [Int.natCast_add]
        rfl
      · have ht : ((r : Int) != (k : Int)) = true := by rw [bne_iff_ne]; omega
        have HNE := Lib.hid hne
        clear hne
        go_wp2_with fail
        go_ret3
        rw [HD.out]
        exact ⟨fun h => absurd h HSH.out, fun _ _ => ⟨rfl, hbz⟩, fun _ h => absurd (HRW.out.symm.trans h) HNE.out⟩
end Go.Proofs.Yteemncpmcfflmaa
