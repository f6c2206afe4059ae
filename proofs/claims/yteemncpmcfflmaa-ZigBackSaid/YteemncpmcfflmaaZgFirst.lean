/-
  rows, first: the first row into which a number fits.
-/
import Derived.Test.YteemncpmcfflmaaZgFold
import Derived.Test.YteemncpmcfflmaaBlkRow
import Derived.RegionTactic
import Derived.Deep.DeepCutAuto
namespace Go.Proofs.Yteemncpmcfflmaa
open Go.RowKit Pl
set_option linter.unusedVariables false

theorem c18_one : (#[.int .u64 0, .int .i64 1, .int .i64 0, .int .u64 2, .int .i64 2, .int .i64 7, .int .u64 6, .int .i64 3, .int .i64 9, .int .u64 14, .int .i64 4, .int .i64 12, .int .u64 30, .int .i64 5, .int .i64 32, .int .u64 31, .int .i64 5, .int .i64 64] : Array Value).all (·.oneCell') = true := by kernel_rfl

set_option maxRecDepth 100000 in
theorem rows_any (w : World) :
    Calls Try.prog 29 #[] w fun e w' => e = .returned (.agg #[.int .u64 0, .int .i64 1, .int .i64 0, .int .u64 2, .int .i64 2, .int .i64 7, .int .u64 6, .int .i64 3, .int .i64 9, .int .u64 14, .int .i64 4, .int .i64 12, .int .u64 30, .int .i64 5, .int .i64 32, .int .u64 31, .int .i64 5, .int .i64 64]) ∧ Below w.heap.size w w' := by
  go_enter Try.func29, Try.ntmps29
  have HB := Blk.new w 63 #[.int .u64 0, .int .i64 0, .int .i64 0, .int .u64 0, .int .i64 0, .int .i64 0, .int .u64 0, .int .i64 0, .int .i64 0, .int .u64 0, .int .i64 0, .int .i64 0, .int .u64 0, .int .i64 0, .int .i64 0, .int .u64 0, .int .i64 0, .int .i64 0]
  have hb0 : Below w.heap.size w (w.alloc (.cells #[.int .u64 0, .int .i64 0, .int .i64 0, .int .u64 0, .int .i64 0, .int .i64 0, .int .u64 0, .int .i64 0, .int .i64 0, .int .u64 0, .int .i64 0, .int .i64 0, .int .u64 0, .int .i64 0, .int .i64 0, .int .u64 0, .int .i64 0, .int .i64 0] 63)) := (Below.refl _ _).alloc (Nat.le_refl _) _
  go_wp2_with (refine wpList_store_blk rfl 63 _ _ rfl w.heap.size 63 #[.int .u64 0, .int .i64 0, .int .i64 0, .int .u64 0, .int .i64 0, .int .i64 0, .int .u64 0, .int .i64 0, .int .i64 0, .int .u64 0, .int .i64 0, .int .i64 0, .int .u64 0, .int .i64 0, .int .i64 0, .int .u64 0, .int .i64 0, .int .i64 0] #[.int .u64 0, .int .i64 1, .int .i64 0, .int .u64 2, .int .i64 2, .int .i64 7, .int .u64 6, .int .i64 3, .int .i64 9, .int .u64 14, .int .i64 4, .int .i64 12, .int .u64 30, .int .i64 5, .int .i64 32, .int .u64 31, .int .i64 5, .int .i64 64] rfl rfl HB rfl (by kernel_rfl) c18_one ?_; intro w1 hblk hbel hheap; have hb1 := hb0.trans (hbel _ (Nat.le_refl _)); clear hbel hheap hb0 HB)
  refine bodyPost_ret (v := .agg #[.int .u64 0, .int .i64 1, .int .i64 0, .int .u64 2, .int .i64 2, .int .i64 7, .int .u64 6, .int .i64 3, .int .i64 9, .int .u64 14, .int .i64 4, .int .i64 12, .int .u64 30, .int .i64 5, .int .i64 32, .int .u64 31, .int .i64 5, .int .i64 64]) (results_cell_row rfl _ _ w.heap.size 63 _ (0, 0) _ rfl hblk Try.underlying63 rfl (by kernel_rfl)) rfl ⟨rfl, hb1⟩

/-- The row of a number; its width; the bits ahead, and how many they are. -/
def row (n : Nat) : Nat := if n < 1 then 0 else if n < 128 then 1 else if n < 512 then 2 else if n < 4096 then 3 else if n < 4294967296 then 4 else 5
def wid (k : Nat) : Nat := [0, 7, 9, 12, 32, 64].getD k 64
def ahd (k : Nat) : Nat := [0, 2, 6, 14, 30, 31].getD k 31
def mny (k : Nat) : Nat := [1, 2, 3, 4, 5, 5].getD k 5
theorem row_cases (n : Nat) : (row n = 0 ∧ n < 1) ∨ (row n = 1 ∧ 1 ≤ n ∧ n < 128) ∨ (row n = 2 ∧ 128 ≤ n ∧ n < 512) ∨ (row n = 3 ∧ 512 ≤ n ∧ n < 4096) ∨ (row n = 4 ∧ 4096 ≤ n ∧ n < 4294967296) ∨ (row n = 5 ∧ 4294967296 ≤ n) := by
  unfold row
  repeat' split
  all_goals omega

set_option maxRecDepth 100000 in
set_option maxHeartbeats 4000000 in
theorem first_any (n : Nat) (w : World) :
    Calls Try.prog 21 #[.int .u64 (n : Int)] w fun e w' => e = .returned (.tuple #[.int .i64 (row n : Nat), .agg #[.int .u64 (ahd (row n) : Nat), .int .i64 (mny (row n) : Nat), .int .i64 (wid (row n) : Nat)]]) ∧ Below w.heap.size w w' := by
  obtain ⟨r, hr⟩ : ∃ r, row n = r := ⟨_, rfl⟩
  have hrc := row_cases n
  rw [hr] at hrc
  have HRC := Lib.hid hrc
  rw [hr]
  clear hrc hr
  go_enter Try.func21, Try.ntmps21
  go_wp2_with fail
  go_step3
  go_wp2_with fail
  refine (rows_any _).mono ?_
  rintro e w1 ⟨rfl, hb1⟩
  have hbw1 : Below w.heap.size w w1 := ((Below.refl _ _).alloc (Nat.le_refl _) _).trans (hb1.mono (by simp))
  have HR0 : Hid (Blk w1 w.heap.size 51 #[.int .u64 0, .int .i64 0, .int .i64 0]) := Lib.hid ((Blk.new w _ _).below hb1 (by simp))
  have zlt : w.heap.size < w1.heap.size := HR0.out.lt
  clear hb1
  have HB := Blk.new w1 63 #[.int .u64 0, .int .i64 0, .int .i64 0, .int .u64 0, .int .i64 0, .int .i64 0, .int .u64 0, .int .i64 0, .int .i64 0, .int .u64 0, .int .i64 0, .int .i64 0, .int .u64 0, .int .i64 0, .int .i64 0, .int .u64 0, .int .i64 0, .int .i64 0]
  replace HR0 := Lib.hid (HR0.out.alloc (.cells #[.int .u64 0, .int .i64 0, .int .i64 0, .int .u64 0, .int .i64 0, .int .i64 0, .int .u64 0, .int .i64 0, .int .i64 0, .int .u64 0, .int .i64 0, .int .i64 0, .int .u64 0, .int .i64 0, .int .i64 0, .int .u64 0, .int .i64 0, .int .i64 0] 63))
  have hbz := hbw1.alloc hbw1.size (.cells #[.int .u64 0, .int .i64 0, .int .i64 0, .int .u64 0, .int .i64 0, .int .i64 0, .int .u64 0, .int .i64 0, .int .i64 0, .int .u64 0, .int .i64 0, .int .i64 0, .int .u64 0, .int .i64 0, .int .i64 0, .int .u64 0, .int .i64 0, .int .i64 0] 63)
  go_wp2_with (refine wpList_store_blk rfl 63 _ _ rfl w1.heap.size 63 #[.int .u64 0, .int .i64 0, .int .i64 0, .int .u64 0, .int .i64 0, .int .i64 0, .int .u64 0, .int .i64 0, .int .i64 0, .int .u64 0, .int .i64 0, .int .i64 0, .int .u64 0, .int .i64 0, .int .i64 0, .int .u64 0, .int .i64 0, .int .i64 0] #[.int .u64 0, .int .i64 1, .int .i64 0, .int .u64 2, .int .i64 2, .int .i64 7, .int .u64 6, .int .i64 3, .int .i64 9, .int .u64 14, .int .i64 4, .int .i64 12, .int .u64 30, .int .i64 5, .int .i64 32, .int .u64 31, .int .i64 5, .int .i64 64] rfl rfl HB rfl (by kernel_rfl) c18_one ?_; intro w2 hblk hbel hheap; have HA := Lib.hid hblk; have hb1 := hbz.trans ((hbel _ (Nat.le_refl _)).mono hbw1.size); replace HR0 := Lib.hid ((hheap _ (by omega)).trans HR0.out : Blk w2 w.heap.size 51 #[.int .u64 0, .int .i64 0, .int .i64 0]); clear hbel hheap hbz hblk HB)
  go_step3
  go_wp2_with fail
  go_loopw [5] (fun s5 wr => ∃ k : Nat, s5 = .int .i64 (k : Int) ∧ Hid (k ≤ r) ∧ Hid (Blk wr w1.heap.size 63 #[.int .u64 0, .int .i64 1, .int .i64 0, .int .u64 2, .int .i64 2, .int .i64 7, .int .u64 6, .int .i64 3, .int .i64 9, .int .u64 14, .int .i64 4, .int .i64 12, .int .u64 30, .int .i64 5, .int .i64 32, .int .u64 31, .int .i64 5, .int .i64 64]) ∧ Hid (Blk wr w.heap.size 51 #[.int .u64 0, .int .i64 0, .int .i64 0]) ∧ Below w.heap.size w wr) (fun s5 _ => 5 - (intOf s5).toNat)
  case atStart => exact ⟨0, rfl, Lib.hid (Nat.zero_le _), HA, HR0, hb1⟩
  case round =>
    obtain ⟨k, rfl, hk, HA, HR, hbel⟩ := hrel
    have e0 := HR.out.cell 0; have e1 := HR.out.cell 1; have e2 := HR.out.cell 2
    have fr := HR.out.frozen
    obtain rfl | rfl | rfl | rfl | rfl | rfl : k = 0 ∨ k = 1 ∨ k = 2 ∨ k = 3 ∨ k = 4 ∨ k = 5 := by have := hk.out; have := HRC.out; omega
    · have d0 := HA.out.cell 0; have d1 := HA.out.cell 1; have d2 := HA.out.cell 2
      by_cases hn : n < 1
      · obtain rfl : r = 0 := by have := hk.out; have := HRC.out; omega
        have t : ((n : Int) == 0) = true := beq_iff_eq.2 (by omega)
        clear hn
        go_wp2_with fail
        go_region
        all_goals
          go_wp2_with fail
          try rw [Exit.noGoto_ret]
          refine bodyPost_ret (v := .tuple #[.int .i64 0, .agg #[.int .u64 0, .int .i64 1, .int .i64 0]]) (by simp [results, Try.results21, go_sem, e0, e1, e2]) rfl ⟨rfl, ?_⟩
          exact (((hbel.setCell (Nat.le_refl _) _).setCell (Nat.le_refl _) _).setCell (Nat.le_refl _) _).drew
      · have t : ((n : Int) == 0) = false := beq_eq_false_iff_ne.2 (by omega)
        have hk' := Lib.hid (show 1 ≤ r by have := hk.out; have := HRC.out; omega)
        clear hn
        go_wp2_with fail
        exact ⟨⟨1, rfl, hk', HA, HR, hbel⟩, by simp [intOf]⟩
    · have d0 := HA.out.cell 3; have d1 := HA.out.cell 4; have d2 := HA.out.cell 5
      by_cases hn : n < 128
      · obtain rfl : r = 1 := by have := hk.out; have := HRC.out; omega
        have t : ((n : Int) / 128 == 0) = true := beq_iff_eq.2 (by omega)
        clear hn
        go_wp2_with fail
        go_region
        all_goals
          go_wp2_with fail
          try rw [Exit.noGoto_ret]
          refine bodyPost_ret (v := .tuple #[.int .i64 1, .agg #[.int .u64 2, .int .i64 2, .int .i64 7]]) (by simp [results, Try.results21, go_sem, e0, e1, e2]) rfl ⟨rfl, ?_⟩
          exact (((hbel.setCell (Nat.le_refl _) _).setCell (Nat.le_refl _) _).setCell (Nat.le_refl _) _).drew
      · have t : ((n : Int) / 128 == 0) = false := beq_eq_false_iff_ne.2 (by omega)
        have hk' := Lib.hid (show 2 ≤ r by have := hk.out; have := HRC.out; omega)
        clear hn
        go_wp2_with fail
        exact ⟨⟨2, rfl, hk', HA, HR, hbel⟩, by simp [intOf]⟩
    · have d0 := HA.out.cell 6; have d1 := HA.out.cell 7; have d2 := HA.out.cell 8
      by_cases hn : n < 512
      · obtain rfl : r = 2 := by have := hk.out; have := HRC.out; omega
        have t : ((n : Int) / 512 == 0) = true := beq_iff_eq.2 (by omega)
        clear hn
        go_wp2_with fail
        go_region
        all_goals
          go_wp2_with fail
          try rw [Exit.noGoto_ret]
          refine bodyPost_ret (v := .tuple #[.int .i64 2, .agg #[.int .u64 6, .int .i64 3, .int .i64 9]]) (by simp [results, Try.results21, go_sem, e0, e1, e2]) rfl ⟨rfl, ?_⟩
          exact (((hbel.setCell (Nat.le_refl _) _).setCell (Nat.le_refl _) _).setCell (Nat.le_refl _) _).drew
      · have t : ((n : Int) / 512 == 0) = false := beq_eq_false_iff_ne.2 (by omega)
        have hk' := Lib.hid (show 3 ≤ r by have := hk.out; have := HRC.out; omega)
        clear hn
        go_wp2_with fail
        exact ⟨⟨3, rfl, hk', HA, HR, hbel⟩, by simp [intOf]⟩
    · have d0 := HA.out.cell 9; have d1 := HA.out.cell 10; have d2 := HA.out.cell 11
      by_cases hn : n < 4096
      · obtain rfl : r = 3 := by have := hk.out; have := HRC.out; omega
        have t : ((n : Int) / 4096 == 0) = true := beq_iff_eq.2 (by omega)
        clear hn
        go_wp2_with fail
        go_region
        all_goals
          go_wp2_with fail
          try rw [Exit.noGoto_ret]
          refine bodyPost_ret (v := .tuple #[.int .i64 3, .agg #[.int .u64 14, .int .i64 4, .int .i64 12]]) (by simp [results, Try.results21, go_sem, e0, e1, e2]) rfl ⟨rfl, ?_⟩
          exact (((hbel.setCell (Nat.le_refl _) _).setCell (Nat.le_refl _) _).setCell (Nat.le_refl _) _).drew
      · have t : ((n : Int) / 4096 == 0) = false := beq_eq_false_iff_ne.2 (by omega)
        have hk' := Lib.hid (show 4 ≤ r by have := hk.out; have := HRC.out; omega)
        clear hn
        go_wp2_with fail
        exact ⟨⟨4, rfl, hk', HA, HR, hbel⟩, by simp [intOf]⟩
    · have d0 := HA.out.cell 12; have d1 := HA.out.cell 13; have d2 := HA.out.cell 14
      by_cases hn : n < 4294967296
      · obtain rfl : r = 4 := by have := hk.out; have := HRC.out; omega
        have t : ((n : Int) / 4294967296 == 0) = true := beq_iff_eq.2 (by omega)
        clear hn
        go_wp2_with fail
        go_region
        all_goals
          go_wp2_with fail
          try rw [Exit.noGoto_ret]
          refine bodyPost_ret (v := .tuple #[.int .i64 4, .agg #[.int .u64 30, .int .i64 5, .int .i64 32]]) (by simp [results, Try.results21, go_sem, e0, e1, e2]) rfl ⟨rfl, ?_⟩
          exact (((hbel.setCell (Nat.le_refl _) _).setCell (Nat.le_refl _) _).setCell (Nat.le_refl _) _).drew
      · have t : ((n : Int) / 4294967296 == 0) = false := beq_eq_false_iff_ne.2 (by omega)
        have hk' := Lib.hid (show 5 ≤ r by have := hk.out; have := HRC.out; omega)
        clear hn
        go_wp2_with fail
        exact ⟨⟨5, rfl, hk', HA, HR, hbel⟩, by simp [intOf]⟩
    · have d0 := HA.out.cell 15; have d1 := HA.out.cell 16; have d2 := HA.out.cell 17
      obtain rfl : r = 5 := by have := hk.out; have := HRC.out; omega
      · go_wp2_with fail
        go_region
        all_goals
          go_wp2_with fail
          try rw [Exit.noGoto_ret]
          refine bodyPost_ret (v := .tuple #[.int .i64 5, .agg #[.int .u64 31, .int .i64 5, .int .i64 64]]) (by simp [results, Try.results21, go_sem, e0, e1, e2]) rfl ⟨rfl, ?_⟩
          exact (((hbel.setCell (Nat.le_refl _) _).setCell (Nat.le_refl _) _).setCell (Nat.le_refl _) _).drew
end Go.Proofs.Yteemncpmcfflmaa
