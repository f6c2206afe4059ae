/-
  zig.Put: bits with a number behind them.
-/
import Derived.Test.YteemncpmcfflmaaZgFirst
import Derived.Test.YteemncpmcfflmaaGet
namespace Go.Proofs.Yteemncpmcfflmaa
open Go.RowKit Pl
set_option linter.unusedVariables false

/-- A number as bits: the bits ahead, and the number's own. -/
def code (v : Int) : List Bool := nbits (ahd (row (fold v))) (mny (row (fold v))) ++ nbits (fold v) (wid (row (fold v)))

theorem row_ok {k : Nat} (h : k ≤ 5) : U64 (ahd k : Nat) ∧ mny k ≤ 5 ∧ wid k ≤ 64 := by
  obtain rfl | rfl | rfl | rfl | rfl | rfl : k = 0 ∨ k = 1 ∨ k = 2 ∨ k = 3 ∨ k = 4 ∨ k = 5 := by omega
  all_goals simp only [U64]; decide
theorem row_le (n : Nat) : row n ≤ 5 := by have := row_cases n; omega

theorem blk_at {w : World} {H : Nat} {t : TypeId} {cs : Array Value} (hH : w.heap.size = H) : Blk (w.alloc (.cells cs t)) H t cs := heap_new_at w _ H hH

set_option maxRecDepth 100000 in
set_option maxHeartbeats 2000000 in
theorem zput_unsound (A : Option Addr) (c : Nat) (B : List Int) (N v : Int) (w : World) (hr : Rd w A B) (hB : Byts B) (hN : -9223372036854775808 ≤ N ∧ N ≤ 9223372036854775807) (hl : (B.length : Int) ≤ 1000000000) (hs : ¬ Snd B N) (hv : I64 v) :
    Calls Try.prog 16 #[.agg #[.slice A B.length c, .int .i64 N], .int .i64 v] w (RetNone .u16 11 w) := by
  have HV := Lib.hid hv
  have HP := Lib.hid (fun u W wx h => put_unsound A c B N u W wx h hB hN hl hs)
  obtain ⟨n, hn⟩ : ∃ n, fold v = n := ⟨_, rfl⟩
  have hF := fun wx => fold_any v wx HV.out
  rw [hn] at hF
  have HF := Lib.hid hF
  obtain ⟨bl, hbl⟩ : ∃ n, B.length = n := ⟨_, rfl⟩
  rw [hbl] at HP
  rw [hbl]
  clear hv hB hN hl hs hn hF hbl
  go_enter Try.func16, Try.ntmps16
  go_wp2_with fail
  refine (HF.out _).mono ?_
  rintro e w0 ⟨rfl, rfl⟩
  have HX : Hid (Blk ((w.alloc (.cells #[.slice A bl c, .int .i64 N] 27)).alloc (.cells #[.slice none 0 0, .int .i64 0] 27)) w.heap.size 27 #[.slice A bl c, .int .i64 N]) := Lib.hid ((Blk.new w _ _).alloc _)
  have HR : Hid (Blk ((w.alloc (.cells #[.slice A bl c, .int .i64 N] 27)).alloc (.cells #[.slice none 0 0, .int .i64 0] 27)) (w.heap.size + 1) 27 #[.slice none 0 0, .int .i64 0]) := Lib.hid (blk_at (by simp))
  have hb0 := ((Below.refl w.heap.size w).alloc (Nat.le_refl _) (.cells #[.slice A bl c, .int .i64 N] 27)).alloc (by simp) (.cells #[.slice none 0 0, .int .i64 0] 27)
  go_wp2_with fail
  refine (first_any n _).mono ?_
  rintro e w1 ⟨rfl, hb1⟩
  have hbw1 := hb0.trans (hb1.mono hb0.size)
  obtain ⟨a, ha⟩ : ∃ a, ahd (row n) = a := ⟨_, rfl⟩
  obtain ⟨m, hm⟩ : ∃ a, mny (row n) = a := ⟨_, rfl⟩
  obtain ⟨d, hd⟩ : ∃ a, wid (row n) = a := ⟨_, rfl⟩
  rw [ha, hm, hd]
  replace HX := Lib.hid ((HX.out.below hb1 HX.out.lt).alloc (.cells #[.int .u64 (a : Int), .int .i64 (m : Int), .int .i64 (d : Int)] 51))
  replace HR := Lib.hid ((HR.out.below hb1 HR.out.lt).alloc (.cells #[.int .u64 (a : Int), .int .i64 (m : Int), .int .i64 (d : Int)] 51))
  have hbz := hbw1.alloc hbw1.size (.cells #[.int .u64 (a : Int), .int .i64 (m : Int), .int .i64 (d : Int)] 51)
  have hrz := hr.below hbz
  clear hb0 hb1 ha hm hd
  have x0 := HX.out.cell 0
  have x1 := HX.out.cell 1
  go_wp2_with fail
  refine (HP.out _ _ _ hrz).mono ?_
  rintro e w2 ⟨rfl, hb2⟩
  have hbw2 := hbz.trans (hb2.mono hbz.size)
  replace HR := Lib.hid ((HR.out.below hb2 HR.out.lt).alloc (.cells #[.slice none 0 0, .int .i64 0] 27))
  have hbz2 := hbw2.alloc hbw2.size (.cells #[.slice none 0 0, .int .i64 0] 27)
  clear hb2 x0 x1 HX hrz
  have r0 := HR.out.cell 0
  have r1 := HR.out.cell 1
  have rf := HR.out.frozen
  have zlt := HR.out.lt
  go_wp2_with fail
  refine bodyPost_ret (v := .tuple #[.agg #[.slice none 0 0, .int .i64 0], .int .u16 11]) (by simp [results, Try.results16, go_sem, r0, r1]) rfl ⟨rfl, ?_⟩
  exact ((hbz2.setCell (by simp) _).setCell (by simp) _)

set_option maxRecDepth 100000 in
set_option maxHeartbeats 2000000 in
theorem zput_sound (A : Option Addr) (c : Nat) (B : List Int) (L : List Bool) (v : Int) (w : World) (hr : Rd w A B) (hp : Packs B L) (hl : (B.length : Int) ≤ 900000) (hv : I64 v) :
    Calls Try.prog 16 #[.agg #[.slice A B.length c, .int .i64 (L.length : Int)], .int .i64 v] w (RetBits 5 .u16 (L ++ code v) w) := by
  obtain ⟨L', hL'⟩ : ∃ L', L' = L ++ code v := ⟨_, rfl⟩
  rw [← hL']
  obtain ⟨n, hn⟩ : ∃ n, fold v = n := ⟨_, rfl⟩
  have hF := fun wx => fold_any v wx hv
  have hn64 := fold_lt hv
  unfold code at hL'
  rw [hn] at hF hL' hn64
  have HF := Lib.hid hF
  have HN := Lib.hid hn64
  have hok := row_ok (row_le n)
  have HP := Lib.hid (fun wx h => put_sound A c B L (ahd (row n)) (mny (row n)) wx h hp (by omega) hok.1 (by omega))
  have hLB := hp.len
  have HQ := Lib.hid (fun A2 c2 B2 wx (h : Rd wx A2 B2) hp2 => put_sound A2 c2 B2 (L ++ nbits (ahd (row n)) (mny (row n))) n (wid (row n)) wx h hp2 (by have := hp2.len; rw [List.length_append, nbits_length] at this; omega) hn64 hok.2.2)
  obtain ⟨L1, hL1⟩ : ∃ L1, L ++ nbits (ahd (row n)) (mny (row n)) = L1 := ⟨_, rfl⟩
  rw [← List.append_assoc] at hL'
  rw [hL1] at HP HQ hL'
  rw [← hL'] at HQ
  have hFI := fun wx => first_any n wx
  obtain ⟨k, hk⟩ : ∃ k, row n = k := ⟨_, rfl⟩
  rw [hk] at HP HQ hFI
  obtain ⟨a, ha⟩ : ∃ a, ahd k = a := ⟨_, rfl⟩
  obtain ⟨m, hm⟩ : ∃ a, mny k = a := ⟨_, rfl⟩
  obtain ⟨d, hd⟩ : ∃ a, wid k = a := ⟨_, rfl⟩
  rw [ha, hm] at HP hFI
  rw [hd] at HQ hFI
  have HFI := Lib.hid hFI
  obtain ⟨bl, hbl⟩ : ∃ n, B.length = n := ⟨_, rfl⟩
  obtain ⟨ll, hll⟩ : ∃ n, L.length = n := ⟨_, rfl⟩
  rw [hbl, hll] at HP
  rw [hbl, hll]
  clear hp hl hv hn hF hn64 hok hLB hL1 hL' hFI hk ha hm hd hbl hll HN
  go_enter Try.func16, Try.ntmps16
  go_wp2_with fail
  refine (HF.out _).mono ?_
  rintro e w0 ⟨rfl, rfl⟩
  have HX : Hid (Blk ((w.alloc (.cells #[.slice A bl c, .int .i64 (ll : Int)] 27)).alloc (.cells #[.slice none 0 0, .int .i64 0] 27)) w.heap.size 27 #[.slice A bl c, .int .i64 (ll : Int)]) := Lib.hid ((Blk.new w _ _).alloc _)
  have HR : Hid (Blk ((w.alloc (.cells #[.slice A bl c, .int .i64 (ll : Int)] 27)).alloc (.cells #[.slice none 0 0, .int .i64 0] 27)) (w.heap.size + 1) 27 #[.slice none 0 0, .int .i64 0]) := Lib.hid (blk_at (by simp))
  have hb0 := ((Below.refl w.heap.size w).alloc (Nat.le_refl _) (.cells #[.slice A bl c, .int .i64 (ll : Int)] 27)).alloc (by simp) (.cells #[.slice none 0 0, .int .i64 0] 27)
  go_wp2_with fail
  refine (HFI.out _).mono ?_
  rintro e w1 ⟨rfl, hb1⟩
  have hbw1 := hb0.trans (hb1.mono hb0.size)
  replace HX := Lib.hid ((HX.out.below hb1 HX.out.lt).alloc (.cells #[.int .u64 (a : Int), .int .i64 (m : Int), .int .i64 (d : Int)] 51))
  replace HR := Lib.hid ((HR.out.below hb1 HR.out.lt).alloc (.cells #[.int .u64 (a : Int), .int .i64 (m : Int), .int .i64 (d : Int)] 51))
  have HW := Lib.hid (Blk.new w1 51 #[.int .u64 (a : Int), .int .i64 (m : Int), .int .i64 (d : Int)])
  have hbz := hbw1.alloc hbw1.size (.cells #[.int .u64 (a : Int), .int .i64 (m : Int), .int .i64 (d : Int)] 51)
  have hrz := hr.below hbz
  clear hb0 hb1
  have x0 := HX.out.cell 0
  have x1 := HX.out.cell 1
  go_wp2_with fail
  refine (HP.out _ hrz).mono ?_
  rintro e w2 ⟨A2, c2, B2, rfl, hp2, own2, hb2⟩
  obtain ⟨l1, hl1⟩ : ∃ n, L1.length = n := ⟨_, rfl⟩
  rw [hl1] at HQ ⊢
  have hbw2 := hbz.trans (hb2.mono hbz.size)
  have hr2 := (Rd.of_own own2).alloc (.cells #[.slice A2 B2.length c2, .int .i64 (l1 : Int)] 27)
  replace HR := Lib.hid ((HR.out.below hb2 HR.out.lt).alloc (.cells #[.slice A2 B2.length c2, .int .i64 (l1 : Int)] 27))
  replace HW := Lib.hid ((HW.out.below hb2 HW.out.lt).alloc (.cells #[.slice A2 B2.length c2, .int .i64 (l1 : Int)] 27))
  have hbz2 := hbw2.alloc hbw2.size (.cells #[.slice A2 B2.length c2, .int .i64 (l1 : Int)] 27)
  have HP2 := Lib.hid hp2
  clear hb2 x0 x1 HX hrz own2 hp2 hl1
  have y2 := HW.out.cell 2
  go_wp2_with fail
  refine (HQ.out _ _ _ _ hr2 HP2.out).mono ?_
  rintro e w3 ⟨A3, c3, B3, rfl, hp3, own3, hb3⟩
  have zlt := HR.out.lt
  have hbw3 := hbz2.trans (hb3.mono hbz2.size)
  replace HR := Lib.hid (HR.out.below hb3 HR.out.lt)
  clear y2
  have r0 := HR.out.cell 0
  have r1 := HR.out.cell 1
  have rf := HR.out.frozen
  go_wp2_with fail
  refine bodyPost_ret (v := .tuple #[.agg #[.slice A3 B3.length c3, .int .i64 (L'.length : Int)], .int .u16 0]) (by simp [results, Try.results16, go_sem, r0, r1]) rfl ?_
  refine ⟨A3, c3, B3, rfl, hp3, ?_, ?_⟩
  · exact own_far (own_far (own_base own3 hbz2.size) (fun e => by have := own3.lt _ e; have := hbz2.size; simp at *; omega) _) (fun e => by have := own3.lt _ e; have := hbz2.size; simp at *; omega) _
  · exact ((hbw3.setCell (by simp) _).setCell (by simp) _)
end Go.Proofs.Yteemncpmcfflmaa
