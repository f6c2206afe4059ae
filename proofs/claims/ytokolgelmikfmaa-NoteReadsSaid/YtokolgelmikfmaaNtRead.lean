/-
  (*note.reader).read: a note is read, or the call panics with 'short'.
-/
import Derived.Test.YtokolgelmikfmaaNtR
namespace Go.Proofs.Ytokolgelmikfmaa
open Go.RowKit Pl
set_option linter.unusedVariables false

/-- What 'read' answers: what the bytes are read as; the bits lie in a row of their own. -/
def RetRead (gr : Nat) (Bs : List Int) (q : Nat) (w : World) (e : Ending) (w' : World) : Prop :=
  ∃ A c, e = .returned (nv (parse Bs) A c) ∧ w'.ownsRow w.heap.size 5 1 (.slice A (parse Bs).B.length c) (parse Bs).B.length (u8s (parse Bs).B) ∧ Rr w' gr Bs q ∧ Below gr w w' ∧ KeepN gr w w'
theorem wrap_i64of {n : Nat} (h : n < 18446744073709551616) : IntKind.i64.wrap (n : Int) = i64of n := by
  have e1 : (2 : Int) ^ 64 = 18446744073709551616 := by decide
  have e2 : (2 : Int) ^ (64 - 1) = 9223372036854775808 := by decide
  unfold i64of
  simp only [IntKind.wrap, IntKind.bits, IntKind.signed, e1, e2, Bool.true_and, decide_eq_true_eq]
  by_cases h1 : n < 9223372036854775808
  · rw [if_pos h1, if_neg (by omega)]; omega
  · rw [if_neg h1, if_pos (by omega)]; omega
theorem num_one {Bs : List Int} {k : Nat} (h : Bs.getD 0 0 = (k : Int)) : num Bs 0 1 = k := by
  have : num Bs 0 1 = (Bs.getD 0 0).toNat := by rw [num, rng_one]; simp [vb]
  rw [this, h]; simp

/-- The state of 'read': the reader's place, the two notes' cells. -/
def St (w0 : World) (gr : Nat) (Bs : List Int) (g3 p : Nat) (cs : Array Value) (w : World) : Prop :=
  Rr w gr Bs p ∧ Blk w w0.heap.size 32 #[.int .u8 0, .int .u32 0, .int .u32 0, .int .i64 0, .int .u64 0, .int .u32 0, .int .u32 0, .int .u32 0, .int .u32 0, .bool false, .slice none 0 0, .int .i64 0] ∧ Blk w g3 32 cs ∧ Below gr w0 w ∧ KeepN gr w0 w ∧ gr < w0.heap.size ∧ w0.heap.size < g3
section
variable {w0 w w' : World} {gr g3 p q : Nat} {Bs : List Int} {cs : Array Value}
theorem St.call (h : St w0 gr Bs g3 p cs w) (hr : Rr w' gr Bs q) (hb : Below gr w w') (hk : KeepN gr w w') : St w0 gr Bs g3 q cs w' := by
  obtain ⟨h1, h2, h3, h4, h5, h6, h7⟩ := h
  exact ⟨hr, hk _ _ _ (by omega) h2, hk _ _ _ (by omega) h3, h4.trans hb, h5.trans hk, h6, h7⟩
theorem St.set (h : St w0 gr Bs g3 p cs w) (i : Nat) (u : Value) : St w0 gr Bs g3 p (cs.setIfInBounds i u) (w.setCell ⟨g3, i, none⟩ u) := by
  obtain ⟨h1, h2, h3, h4, h5, h6, h7⟩ := h
  exact ⟨h1.set_far (by omega) i u, h2.far (p := ⟨g3, i, none⟩) (by simp; omega) u, h3.set_ i u, h4.setCell (p := ⟨g3, i, none⟩) (by simp; omega) u, h5.set_new (by omega) i u, h6, h7⟩
theorem St.below (h : St w0 gr Bs g3 p cs w) (hb : Below w.heap.size w w') : St w0 gr Bs g3 p cs w' := by
  obtain ⟨⟨A, c, h1, h1a, h1b, h1c⟩, h2, h3, h4, h5, h6, h7⟩ := h
  have hgl := h1.lt
  exact ⟨⟨A, c, h1.below hb h1.lt, h1a, h1b.below (hb.mono (Nat.le_of_lt hgl)), h1c⟩, h2.below hb h2.lt, h3.below hb h3.lt, h4.trans (hb.mono (Nat.le_of_lt hgl)), h5.below hb, h6, h7⟩
theorem St.new (hr : Rr w gr Bs p) (h2 : Blk w w0.heap.size 32 #[.int .u8 0, .int .u32 0, .int .u32 0, .int .i64 0, .int .u64 0, .int .u32 0, .int .u32 0, .int .u32 0, .int .u32 0, .bool false, .slice none 0 0, .int .i64 0]) (h4 : Below gr w0 w) (h5 : KeepN gr w0 w) (h6 : gr < w0.heap.size) : St w0 gr Bs w.heap.size p cs (w.alloc (.cells cs 32)) :=
  ⟨hr.alloc _, h2.alloc _, Blk.new _ _ _, h4.alloc (Nat.le_of_lt hr.lt) _, h5.alloc _, h6, h2.lt⟩
end

set_option maxRecDepth 100000 in
set_option maxHeartbeats 4000000 in
theorem read_one (gr : Nat) (Bs : List Int) (w : World) (hrr : Rr w gr Bs 0) (hB : Byts Bs) (hl : (Bs.length : Int) ≤ 1000000) (hk : Bs.getD 0 0 = 1) (hs : 5 ≤ Bs.length) :
    Calls Try.prog 24 #[.pointer (some ⟨gr, 0, none⟩)] w (RetRead gr Bs 5 w) := by
  have hgl := hrr.lt
  have hrr0 := hrr.alloc (.cells #[.int .u8 0, .int .u32 0, .int .u32 0, .int .i64 0, .int .u64 0, .int .u32 0, .int .u32 0, .int .u32 0, .int .u32 0, .bool false, .slice none 0 0, .int .i64 0] 32)
  have T1 := fun wx (h : Rr wx gr Bs 0) => rnumber_fits gr Bs 0 1 wx h hB hl (by decide) (by omega)
  unfold RetNum at T1
  rw [num_one (k := 1) hk] at T1
  have HT1 := Lib.hid T1
  have TS := fun p wx (h : Rr wx gr Bs p) (hh : p + 4 ≤ Bs.length) => small_fits gr Bs p wx h hB hl hh
  unfold RetSmall at TS
  have HTS := Lib.hid TS
  have TN := fun p W wx (h : Rr wx gr Bs p) (hW : W ≤ 8) (hh : p + W ≤ Bs.length) => rnumber_fits gr Bs p W wx h hB hl hW hh
  unfold RetNum at TN
  have HTN := Lib.hid TN
  have TP := fun p wx (h : Rr wx gr Bs p) (hh : p + 12 ≤ Bs.length) => place_fits gr Bs p wx h hB hl hh
  unfold RetPlace at TP
  have HTP := Lib.hid TP
  have hp : parse Bs = ⟨1, num Bs 1 4, 0, 0, 0, 0, 0, 0, 0, false, [], 0⟩ := by unfold parse; rw [if_pos hk]
  unfold RetRead
  rw [hp]
  unfold nv
  simp only
  clear T1 TS TN TP hrr hB hl hk hp
  have hb0 : Below gr w (w.alloc (.cells #[.int .u8 0, .int .u32 0, .int .u32 0, .int .i64 0, .int .u64 0, .int .u32 0, .int .u32 0, .int .u32 0, .int .u32 0, .bool false, .slice none 0 0, .int .i64 0] 32)) := (Below.refl _ _).alloc (Nat.le_of_lt hgl) _
  have hk0 : KeepN gr w (w.alloc (.cells #[.int .u8 0, .int .u32 0, .int .u32 0, .int .i64 0, .int .u64 0, .int .u32 0, .int .u32 0, .int .u32 0, .int .u32 0, .bool false, .slice none 0 0, .int .i64 0] 32)) := (KeepN.refl _ _).alloc _
  have HX := Lib.hid (Blk.new w 32 #[.int .u8 0, .int .u32 0, .int .u32 0, .int .i64 0, .int .u64 0, .int .u32 0, .int .u32 0, .int .u32 0, .int .u32 0, .bool false, .slice none 0 0, .int .i64 0])
  have hgn : ¬ w.heap.size = gr := by omega
  go_enter Try.func24, Try.ntmps24
  go_wp2_with fail
  refine (HT1.out _ hrr0).mono ?_
  rintro e w1 ⟨rfl, hr1, hb1, hk1⟩
  have HS1 := Lib.hid (St.new (cs := #[.int .u8 1, .int .u32 0, .int .u32 0, .int .i64 0, .int .u64 0, .int .u32 0, .int .u32 0, .int .u32 0, .int .u32 0, .bool false, .slice none 0 0, .int .i64 0]) hr1 (hk1 _ _ _ hgn HX.out) (hb0.trans hb1) (hk0.trans hk1) hgl)
  have hz1 : w.heap.size < w1.heap.size := (hk1 _ _ _ hgn HX.out).lt
  have hz2 : gr < w1.heap.size := hr1.lt
  obtain ⟨g3, hg3⟩ : ∃ g, w1.heap.size = g := ⟨_, rfl⟩
  rw [hg3] at HS1 hz1 hz2
  have HG3 := Lib.hid hg3
  obtain ⟨v1, hv1⟩ : ∃ v, w1.alloc (.cells #[.int .u8 1, .int .u32 0, .int .u32 0, .int .i64 0, .int .u64 0, .int .u32 0, .int .u32 0, .int .u32 0, .int .u32 0, .bool false, .slice none 0 0, .int .i64 0] 32) = v := ⟨_, rfl⟩
  rw [hv1] at HS1
  have HV1 := Lib.hid hv1
  clear hb0 hk0 hr1 hb1 hk1 hrr0 HX hg3 hv1
  go_wp2_with fail
  rw [HV1.out, HG3.out]
  refine (HTS.out 1 _ HS1.out.1 (by omega)).mono ?_
  rintro e w2 ⟨rfl, hr2, hb2, hk2⟩
  have HS2 := Lib.hid (HS1.out.call hr2 hb2 hk2)
  clear HS1 hr2 hb2 hk2
  have y2 := cells12 HS2.out.2.2.1
  have yf2 := HS2.out.2.2.1.frozen
  have x2 := cells12 HS2.out.2.1
  have xf2 := HS2.out.2.1.frozen
  go_wp2_with fail
  refine bodyPost_ret (v := .agg #[.int .u8 1, .int .u32 ((num Bs 1 4 : Nat) : Int), .int .u32 0, .int .i64 0, .int .u64 0, .int .u32 0, .int .u32 0, .int .u32 0, .int .u32 0, .bool false, .slice none 0 0, .int .i64 0]) (by simp [results, Try.results24, go_sem, x2]) rfl ?_
  have hgg : gr < g3 := by omega
  refine ⟨none, 0, rfl, World.ownsRow_nil _ _ _ _, ?_, ?_, ?_⟩
  · iterate 13 with_reducible refine Rr.set_far ?_ (by omega) _ _
    exact HS2.out.1
  · iterate 13 with_reducible refine Below.setCell ?_ (Nat.le_of_lt (by first | exact hgl | exact hgg)) _
    exact HS2.out.2.2.2.1
  · iterate 13 with_reducible refine KeepN.set_new ?_ (by omega) _ _
    exact HS2.out.2.2.2.2.1


set_option maxRecDepth 100000 in
set_option maxHeartbeats 4000000 in
theorem read_two (gr : Nat) (Bs : List Int) (w : World) (hrr : Rr w gr Bs 0) (hB : Byts Bs) (hl : (Bs.length : Int) ≤ 1000000) (hk : Bs.getD 0 0 = 2) (hs : 21 ≤ Bs.length) :
    Calls Try.prog 24 #[.pointer (some ⟨gr, 0, none⟩)] w (RetRead gr Bs 21 w) := by
  have hgl := hrr.lt
  have hrr0 := hrr.alloc (.cells #[.int .u8 0, .int .u32 0, .int .u32 0, .int .i64 0, .int .u64 0, .int .u32 0, .int .u32 0, .int .u32 0, .int .u32 0, .bool false, .slice none 0 0, .int .i64 0] 32)
  have T1 := fun wx (h : Rr wx gr Bs 0) => rnumber_fits gr Bs 0 1 wx h hB hl (by decide) (by omega)
  unfold RetNum at T1
  rw [num_one (k := 2) hk] at T1
  have HT1 := Lib.hid T1
  have TS := fun p wx (h : Rr wx gr Bs p) (hh : p + 4 ≤ Bs.length) => small_fits gr Bs p wx h hB hl hh
  unfold RetSmall at TS
  have HTS := Lib.hid TS
  have TN := fun p W wx (h : Rr wx gr Bs p) (hW : W ≤ 8) (hh : p + W ≤ Bs.length) => rnumber_fits gr Bs p W wx h hB hl hW hh
  unfold RetNum at TN
  have HTN := Lib.hid TN
  have TP := fun p wx (h : Rr wx gr Bs p) (hh : p + 12 ≤ Bs.length) => place_fits gr Bs p wx h hB hl hh
  unfold RetPlace at TP
  have HTP := Lib.hid TP
  have hi64 : IntKind.i64.wrap ((num Bs 5 8 : Nat) : Int) = i64of (num Bs 5 8) := by
    have h1 := num_lt hB 5 8
    rw [pow8] at h1
    exact wrap_i64of h1
  have hp : parse Bs = ⟨2, 0, num Bs 1 4, i64of (num Bs 5 8), num Bs 13 8, 0, 0, 0, 0, false, [], 0⟩ := by unfold parse; rw [if_neg (by rw [hk]; decide), if_pos hk]
  unfold RetRead
  rw [hp]
  unfold nv
  simp only
  clear T1 TS TN TP hrr hB hl hk hp
  have hb0 : Below gr w (w.alloc (.cells #[.int .u8 0, .int .u32 0, .int .u32 0, .int .i64 0, .int .u64 0, .int .u32 0, .int .u32 0, .int .u32 0, .int .u32 0, .bool false, .slice none 0 0, .int .i64 0] 32)) := (Below.refl _ _).alloc (Nat.le_of_lt hgl) _
  have hk0 : KeepN gr w (w.alloc (.cells #[.int .u8 0, .int .u32 0, .int .u32 0, .int .i64 0, .int .u64 0, .int .u32 0, .int .u32 0, .int .u32 0, .int .u32 0, .bool false, .slice none 0 0, .int .i64 0] 32)) := (KeepN.refl _ _).alloc _
  have HX := Lib.hid (Blk.new w 32 #[.int .u8 0, .int .u32 0, .int .u32 0, .int .i64 0, .int .u64 0, .int .u32 0, .int .u32 0, .int .u32 0, .int .u32 0, .bool false, .slice none 0 0, .int .i64 0])
  have hgn : ¬ w.heap.size = gr := by omega
  go_enter Try.func24, Try.ntmps24
  go_wp2_with fail
  refine (HT1.out _ hrr0).mono ?_
  rintro e w1 ⟨rfl, hr1, hb1, hk1⟩
  have HS1 := Lib.hid (St.new (cs := #[.int .u8 2, .int .u32 0, .int .u32 0, .int .i64 0, .int .u64 0, .int .u32 0, .int .u32 0, .int .u32 0, .int .u32 0, .bool false, .slice none 0 0, .int .i64 0]) hr1 (hk1 _ _ _ hgn HX.out) (hb0.trans hb1) (hk0.trans hk1) hgl)
  have hz1 : w.heap.size < w1.heap.size := (hk1 _ _ _ hgn HX.out).lt
  have hz2 : gr < w1.heap.size := hr1.lt
  obtain ⟨g3, hg3⟩ : ∃ g, w1.heap.size = g := ⟨_, rfl⟩
  rw [hg3] at HS1 hz1 hz2
  have HG3 := Lib.hid hg3
  obtain ⟨v1, hv1⟩ : ∃ v, w1.alloc (.cells #[.int .u8 2, .int .u32 0, .int .u32 0, .int .i64 0, .int .u64 0, .int .u32 0, .int .u32 0, .int .u32 0, .int .u32 0, .bool false, .slice none 0 0, .int .i64 0] 32) = v := ⟨_, rfl⟩
  rw [hv1] at HS1
  have HV1 := Lib.hid hv1
  clear hb0 hk0 hr1 hb1 hk1 hrr0 HX hg3 hv1
  go_wp2_with fail
  rw [HV1.out, HG3.out]
  refine (HTS.out 1 _ HS1.out.1 (by omega)).mono ?_
  rintro e w2 ⟨rfl, hr2, hb2, hk2⟩
  have HS2 := Lib.hid (HS1.out.call hr2 hb2 hk2)
  clear HS1 hr2 hb2 hk2
  have y2 := cells12 HS2.out.2.2.1
  have yf2 := HS2.out.2.2.1.frozen
  have HS2b : Hid (St w gr Bs g3 5 #[.int .u8 2, .int .u32 0, .int .u32 ((num Bs 1 4 : Nat) : Int), .int .i64 0, .int .u64 0, .int .u32 0, .int .u32 0, .int .u32 0, .int .u32 0, .bool false, .slice none 0 0, .int .i64 0] (w2.setCell ⟨g3, 2, none⟩ (.int .u32 ((num Bs 1 4 : Nat) : Int)))) := Lib.hid (HS2.out.set 2 (.int .u32 ((num Bs 1 4 : Nat) : Int)))
  go_wp2_with fail
  clear y2 yf2 HS2
  refine (HTN.out 5 8 _ HS2b.out.1 (by decide) (by omega)).mono ?_
  rintro e w3 ⟨rfl, hr3, hb3, hk3⟩
  have HS3 := Lib.hid (HS2b.out.call hr3 hb3 hk3)
  clear HS2b hr3 hb3 hk3
  go_wp2_with fail
  refine (HTN.out 13 8 _ HS3.out.1 (by decide) (by omega)).mono ?_
  rintro e w4 ⟨rfl, hr4, hb4, hk4⟩
  have HS4 := Lib.hid (HS3.out.call hr4 hb4 hk4)
  clear HS3 hr4 hb4 hk4
  have y4 := cells12 HS4.out.2.2.1
  have yf4 := HS4.out.2.2.1.frozen
  have x4 := cells12 HS4.out.2.1
  have xf4 := HS4.out.2.1.frozen
  go_wp2_with fail
  refine bodyPost_ret (v := .agg #[.int .u8 2, .int .u32 0, .int .u32 ((num Bs 1 4 : Nat) : Int), .int .i64 (i64of (num Bs 5 8)), .int .u64 ((num Bs 13 8 : Nat) : Int), .int .u32 0, .int .u32 0, .int .u32 0, .int .u32 0, .bool false, .slice none 0 0, .int .i64 0]) (by simp [results, Try.results24, go_sem, x4]) rfl ?_
  have hgg : gr < g3 := by omega
  refine ⟨none, 0, rfl, World.ownsRow_nil _ _ _ _, ?_, ?_, ?_⟩
  · iterate 14 with_reducible refine Rr.set_far ?_ (by omega) _ _
    exact HS4.out.1
  · iterate 14 with_reducible refine Below.setCell ?_ (Nat.le_of_lt (by first | exact hgl | exact hgg)) _
    exact HS4.out.2.2.2.1
  · iterate 14 with_reducible refine KeepN.set_new ?_ (by omega) _ _
    exact HS4.out.2.2.2.2.1


set_option maxRecDepth 100000 in
set_option maxHeartbeats 4000000 in
theorem read_three (gr : Nat) (Bs : List Int) (w : World) (hrr : Rr w gr Bs 0) (hB : Byts Bs) (hl : (Bs.length : Int) ≤ 1000000) (hk : Bs.getD 0 0 = 3) (hs : 17 ≤ Bs.length) :
    Calls Try.prog 24 #[.pointer (some ⟨gr, 0, none⟩)] w (RetRead gr Bs 17 w) := by
  have hgl := hrr.lt
  have hrr0 := hrr.alloc (.cells #[.int .u8 0, .int .u32 0, .int .u32 0, .int .i64 0, .int .u64 0, .int .u32 0, .int .u32 0, .int .u32 0, .int .u32 0, .bool false, .slice none 0 0, .int .i64 0] 32)
  have T1 := fun wx (h : Rr wx gr Bs 0) => rnumber_fits gr Bs 0 1 wx h hB hl (by decide) (by omega)
  unfold RetNum at T1
  rw [num_one (k := 3) hk] at T1
  have HT1 := Lib.hid T1
  have TS := fun p wx (h : Rr wx gr Bs p) (hh : p + 4 ≤ Bs.length) => small_fits gr Bs p wx h hB hl hh
  unfold RetSmall at TS
  have HTS := Lib.hid TS
  have TN := fun p W wx (h : Rr wx gr Bs p) (hW : W ≤ 8) (hh : p + W ≤ Bs.length) => rnumber_fits gr Bs p W wx h hB hl hW hh
  unfold RetNum at TN
  have HTN := Lib.hid TN
  have TP := fun p wx (h : Rr wx gr Bs p) (hh : p + 12 ≤ Bs.length) => place_fits gr Bs p wx h hB hl hh
  unfold RetPlace at TP
  have HTP := Lib.hid TP
  have hp : parse Bs = ⟨3, 0, num Bs 1 4, 0, 0, num Bs 5 4, num Bs 9 4, num Bs 13 4, 0, false, [], 0⟩ := by unfold parse; rw [if_neg (by rw [hk]; decide), if_neg (by rw [hk]; decide), if_pos hk]
  unfold RetRead
  rw [hp]
  unfold nv
  simp only
  clear T1 TS TN TP hrr hB hl hk hp
  have hb0 : Below gr w (w.alloc (.cells #[.int .u8 0, .int .u32 0, .int .u32 0, .int .i64 0, .int .u64 0, .int .u32 0, .int .u32 0, .int .u32 0, .int .u32 0, .bool false, .slice none 0 0, .int .i64 0] 32)) := (Below.refl _ _).alloc (Nat.le_of_lt hgl) _
  have hk0 : KeepN gr w (w.alloc (.cells #[.int .u8 0, .int .u32 0, .int .u32 0, .int .i64 0, .int .u64 0, .int .u32 0, .int .u32 0, .int .u32 0, .int .u32 0, .bool false, .slice none 0 0, .int .i64 0] 32)) := (KeepN.refl _ _).alloc _
  have HX := Lib.hid (Blk.new w 32 #[.int .u8 0, .int .u32 0, .int .u32 0, .int .i64 0, .int .u64 0, .int .u32 0, .int .u32 0, .int .u32 0, .int .u32 0, .bool false, .slice none 0 0, .int .i64 0])
  have hgn : ¬ w.heap.size = gr := by omega
  go_enter Try.func24, Try.ntmps24
  go_wp2_with fail
  refine (HT1.out _ hrr0).mono ?_
  rintro e w1 ⟨rfl, hr1, hb1, hk1⟩
  have HS1 := Lib.hid (St.new (cs := #[.int .u8 3, .int .u32 0, .int .u32 0, .int .i64 0, .int .u64 0, .int .u32 0, .int .u32 0, .int .u32 0, .int .u32 0, .bool false, .slice none 0 0, .int .i64 0]) hr1 (hk1 _ _ _ hgn HX.out) (hb0.trans hb1) (hk0.trans hk1) hgl)
  have hz1 : w.heap.size < w1.heap.size := (hk1 _ _ _ hgn HX.out).lt
  have hz2 : gr < w1.heap.size := hr1.lt
  obtain ⟨g3, hg3⟩ : ∃ g, w1.heap.size = g := ⟨_, rfl⟩
  rw [hg3] at HS1 hz1 hz2
  have HG3 := Lib.hid hg3
  obtain ⟨v1, hv1⟩ : ∃ v, w1.alloc (.cells #[.int .u8 3, .int .u32 0, .int .u32 0, .int .i64 0, .int .u64 0, .int .u32 0, .int .u32 0, .int .u32 0, .int .u32 0, .bool false, .slice none 0 0, .int .i64 0] 32) = v := ⟨_, rfl⟩
  rw [hv1] at HS1
  have HV1 := Lib.hid hv1
  clear hb0 hk0 hr1 hb1 hk1 hrr0 HX hg3 hv1
  go_wp2_with fail
  rw [HV1.out, HG3.out]
  refine (HTS.out 1 _ HS1.out.1 (by omega)).mono ?_
  rintro e w2 ⟨rfl, hr2, hb2, hk2⟩
  have HS2 := Lib.hid (HS1.out.call hr2 hb2 hk2)
  clear HS1 hr2 hb2 hk2
  go_wp2_with fail
  refine (HTP.out 5 _ HS2.out.1 (by omega)).mono ?_
  rintro e w3 ⟨rfl, hr3, hb3, hk3⟩
  have HS3 := Lib.hid (HS2.out.call hr3 hb3 hk3)
  clear HS2 hr3 hb3 hk3
  have y3 := cells12 HS3.out.2.2.1
  have yf3 := HS3.out.2.2.1.frozen
  have x3 := cells12 HS3.out.2.1
  have xf3 := HS3.out.2.1.frozen
  go_wp2_with fail
  refine bodyPost_ret (v := .agg #[.int .u8 3, .int .u32 0, .int .u32 ((num Bs 1 4 : Nat) : Int), .int .i64 0, .int .u64 0, .int .u32 ((num Bs 5 4 : Nat) : Int), .int .u32 ((num Bs 9 4 : Nat) : Int), .int .u32 ((num Bs 13 4 : Nat) : Int), .int .u32 0, .bool false, .slice none 0 0, .int .i64 0]) (by simp [results, Try.results24, go_sem, x3]) rfl ?_
  have hgg : gr < g3 := by omega
  refine ⟨none, 0, rfl, World.ownsRow_nil _ _ _ _, ?_, ?_, ?_⟩
  · iterate 16 with_reducible refine Rr.set_far ?_ (by omega) _ _
    exact HS3.out.1
  · iterate 16 with_reducible refine Below.setCell ?_ (Nat.le_of_lt (by first | exact hgl | exact hgg)) _
    exact HS3.out.2.2.2.1
  · iterate 16 with_reducible refine KeepN.set_new ?_ (by omega) _ _
    exact HS3.out.2.2.2.2.1


set_option maxRecDepth 100000 in
set_option maxHeartbeats 4000000 in
theorem read_four (gr : Nat) (Bs : List Int) (w : World) (hrr : Rr w gr Bs 0) (hB : Byts Bs) (hl : (Bs.length : Int) ≤ 1000000) (hk : Bs.getD 0 0 = 4) (hs : 24 ≤ Bs.length) (hf : num Bs 21 1 ≤ 1) :
    Calls Try.prog 24 #[.pointer (some ⟨gr, 0, none⟩)] w (RetRead gr Bs (24 + (Bs.length - 24)) w) := by
  have hgl := hrr.lt
  have hrr0 := hrr.alloc (.cells #[.int .u8 0, .int .u32 0, .int .u32 0, .int .i64 0, .int .u64 0, .int .u32 0, .int .u32 0, .int .u32 0, .int .u32 0, .bool false, .slice none 0 0, .int .i64 0] 32)
  have T1 := fun wx (h : Rr wx gr Bs 0) => rnumber_fits gr Bs 0 1 wx h hB hl (by decide) (by omega)
  unfold RetNum at T1
  rw [num_one (k := 4) hk] at T1
  have HT1 := Lib.hid T1
  have TS := fun p wx (h : Rr wx gr Bs p) (hh : p + 4 ≤ Bs.length) => small_fits gr Bs p wx h hB hl hh
  unfold RetSmall at TS
  have HTS := Lib.hid TS
  have TN := fun p W wx (h : Rr wx gr Bs p) (hW : W ≤ 8) (hh : p + W ≤ Bs.length) => rnumber_fits gr Bs p W wx h hB hl hW hh
  unfold RetNum at TN
  have HTN := Lib.hid TN
  have TP := fun p wx (h : Rr wx gr Bs p) (hh : p + 12 ≤ Bs.length) => place_fits gr Bs p wx h hB hl hh
  unfold RetPlace at TP
  have HTP := Lib.hid TP
  have h22 := num_lt hB 22 2
  rw [pow2] at h22
  have h22I : ((num Bs 22 2 : Nat) : Int) < 65536 := by omega
  have FL := Lib.hid (fun wx => flag_any (num Bs 21 1) hf wx)
  obtain ⟨m, hm⟩ : ∃ m, Bs.length - 24 = m := ⟨_, rfl⟩
  have TT := Lib.hid (fun wx (h : Rr wx gr Bs 24) => take_fits gr Bs 24 m wx h hl (by omega))
  have HCL := Lib.hid (fun A c wx (h : Rd wx A (Bs.drop 24)) => nclone_any A c (Bs.drop 24) wx h (by rw [List.length_drop]; omega))
  have hdl : (Bs.drop 24).length = m := by rw [List.length_drop]; exact hm
  have hdt : (Bs.drop 24).take m = Bs.drop 24 := List.take_of_length_le (by omega)
  have HMM := Lib.hid hm
  unfold RetTake at TT
  unfold RetRow at HCL
  rw [hdt] at TT
  rw [hdl] at HCL
  have HEND : Hid (24 + m = Bs.length) := Lib.hid (by omega)
  have hmI : (m : Int) ≤ 1000000 := by omega
  have hp : parse Bs = ⟨4, 0, num Bs 1 4, 0, 0, num Bs 5 4, num Bs 9 4, num Bs 13 4, num Bs 17 4, decide (num Bs 21 1 = 1), Bs.drop 24, num Bs 22 2⟩ := by unfold parse; rw [if_neg (by rw [hk]; decide), if_neg (by rw [hk]; decide), if_neg (by rw [hk]; decide), if_pos hk]
  unfold RetRead
  rw [hp]
  unfold nv
  simp only
  rw [hdl]
  clear h22 hm hdl hdt hf
  clear T1 TS TN TP hrr hB hl hk hp
  have hb0 : Below gr w (w.alloc (.cells #[.int .u8 0, .int .u32 0, .int .u32 0, .int .i64 0, .int .u64 0, .int .u32 0, .int .u32 0, .int .u32 0, .int .u32 0, .bool false, .slice none 0 0, .int .i64 0] 32)) := (Below.refl _ _).alloc (Nat.le_of_lt hgl) _
  have hk0 : KeepN gr w (w.alloc (.cells #[.int .u8 0, .int .u32 0, .int .u32 0, .int .i64 0, .int .u64 0, .int .u32 0, .int .u32 0, .int .u32 0, .int .u32 0, .bool false, .slice none 0 0, .int .i64 0] 32)) := (KeepN.refl _ _).alloc _
  have HX := Lib.hid (Blk.new w 32 #[.int .u8 0, .int .u32 0, .int .u32 0, .int .i64 0, .int .u64 0, .int .u32 0, .int .u32 0, .int .u32 0, .int .u32 0, .bool false, .slice none 0 0, .int .i64 0])
  have hgn : ¬ w.heap.size = gr := by omega
  go_enter Try.func24, Try.ntmps24
  go_wp2_with fail
  refine (HT1.out _ hrr0).mono ?_
  rintro e w1 ⟨rfl, hr1, hb1, hk1⟩
  have HS1 := Lib.hid (St.new (cs := #[.int .u8 4, .int .u32 0, .int .u32 0, .int .i64 0, .int .u64 0, .int .u32 0, .int .u32 0, .int .u32 0, .int .u32 0, .bool false, .slice none 0 0, .int .i64 0]) hr1 (hk1 _ _ _ hgn HX.out) (hb0.trans hb1) (hk0.trans hk1) hgl)
  have hz1 : w.heap.size < w1.heap.size := (hk1 _ _ _ hgn HX.out).lt
  have hz2 : gr < w1.heap.size := hr1.lt
  obtain ⟨g3, hg3⟩ : ∃ g, w1.heap.size = g := ⟨_, rfl⟩
  rw [hg3] at HS1 hz1 hz2
  have HG3 := Lib.hid hg3
  obtain ⟨v1, hv1⟩ : ∃ v, w1.alloc (.cells #[.int .u8 4, .int .u32 0, .int .u32 0, .int .i64 0, .int .u64 0, .int .u32 0, .int .u32 0, .int .u32 0, .int .u32 0, .bool false, .slice none 0 0, .int .i64 0] 32) = v := ⟨_, rfl⟩
  rw [hv1] at HS1
  have HV1 := Lib.hid hv1
  clear hb0 hk0 hr1 hb1 hk1 hrr0 HX hg3 hv1
  go_wp2_with fail
  rw [HV1.out, HG3.out]
  refine (HTS.out 1 _ HS1.out.1 (by omega)).mono ?_
  rintro e w2 ⟨rfl, hr2, hb2, hk2⟩
  have HS2 := Lib.hid (HS1.out.call hr2 hb2 hk2)
  clear HS1 hr2 hb2 hk2
  go_wp2_with fail
  refine (HTP.out 5 _ HS2.out.1 (by omega)).mono ?_
  rintro e w3 ⟨rfl, hr3, hb3, hk3⟩
  have HS3 := Lib.hid (HS2.out.call hr3 hb3 hk3)
  clear HS2 hr3 hb3 hk3
  have y3 := cells12 HS3.out.2.2.1
  have yf3 := HS3.out.2.2.1.frozen
  have HS3b : Hid (St w gr Bs g3 17 #[.int .u8 4, .int .u32 0, .int .u32 ((num Bs 1 4 : Nat) : Int), .int .i64 0, .int .u64 0, .int .u32 ((num Bs 5 4 : Nat) : Int), .int .u32 ((num Bs 9 4 : Nat) : Int), .int .u32 ((num Bs 13 4 : Nat) : Int), .int .u32 0, .bool false, .slice none 0 0, .int .i64 0] ((((w3.setCell ⟨g3, 2, none⟩ (.int .u32 ((num Bs 1 4 : Nat) : Int))).setCell ⟨g3, 5, none⟩ (.int .u32 ((num Bs 5 4 : Nat) : Int))).setCell ⟨g3, 6, none⟩ (.int .u32 ((num Bs 9 4 : Nat) : Int))).setCell ⟨g3, 7, none⟩ (.int .u32 ((num Bs 13 4 : Nat) : Int)))) := Lib.hid ((((HS3.out.set 2 (.int .u32 ((num Bs 1 4 : Nat) : Int))).set 5 (.int .u32 ((num Bs 5 4 : Nat) : Int))).set 6 (.int .u32 ((num Bs 9 4 : Nat) : Int))).set 7 (.int .u32 ((num Bs 13 4 : Nat) : Int)))
  go_wp2_with fail
  clear y3 yf3 HS3
  refine (HTS.out 17 _ HS3b.out.1 (by omega)).mono ?_
  rintro e w4 ⟨rfl, hr4, hb4, hk4⟩
  have HS4 := Lib.hid (HS3b.out.call hr4 hb4 hk4)
  clear HS3b hr4 hb4 hk4
  have y4 := cells12 HS4.out.2.2.1
  have yf4 := HS4.out.2.2.1.frozen
  have HS4b : Hid (St w gr Bs g3 21 #[.int .u8 4, .int .u32 0, .int .u32 ((num Bs 1 4 : Nat) : Int), .int .i64 0, .int .u64 0, .int .u32 ((num Bs 5 4 : Nat) : Int), .int .u32 ((num Bs 9 4 : Nat) : Int), .int .u32 ((num Bs 13 4 : Nat) : Int), .int .u32 ((num Bs 17 4 : Nat) : Int), .bool false, .slice none 0 0, .int .i64 0] (w4.setCell ⟨g3, 8, none⟩ (.int .u32 ((num Bs 17 4 : Nat) : Int)))) := Lib.hid (HS4.out.set 8 (.int .u32 ((num Bs 17 4 : Nat) : Int)))
  go_wp2_with fail
  clear y4 yf4 HS4
  refine (HTN.out 21 1 _ HS4b.out.1 (by decide) (by omega)).mono ?_
  rintro e w5 ⟨rfl, hr5, hb5, hk5⟩
  have HS5 := Lib.hid (HS4b.out.call hr5 hb5 hk5)
  clear HS4b hr5 hb5 hk5
  go_wp2_with fail
  refine (FL.out _).mono ?_
  rintro e w5' ⟨rfl, rfl⟩
  have y5 := cells12 HS5.out.2.2.1
  have yf5 := HS5.out.2.2.1.frozen
  have HS5b : Hid (St w gr Bs g3 22 #[.int .u8 4, .int .u32 0, .int .u32 ((num Bs 1 4 : Nat) : Int), .int .i64 0, .int .u64 0, .int .u32 ((num Bs 5 4 : Nat) : Int), .int .u32 ((num Bs 9 4 : Nat) : Int), .int .u32 ((num Bs 13 4 : Nat) : Int), .int .u32 ((num Bs 17 4 : Nat) : Int), .bool (decide (num Bs 21 1 = 1)), .slice none 0 0, .int .i64 0] (w5.setCell ⟨g3, 9, none⟩ (.bool (decide (num Bs 21 1 = 1))))) := Lib.hid (HS5.out.set 9 (.bool (decide (num Bs 21 1 = 1))))
  go_wp2_with fail
  clear y5 yf5 HS5
  refine (HTN.out 22 2 _ HS5b.out.1 (by decide) (by omega)).mono ?_
  rintro e w6 ⟨rfl, hr6, hb6, hk6⟩
  have HS6 := Lib.hid (HS5b.out.call hr6 hb6 hk6)
  clear HS5b hr6 hb6 hk6
  have y6 := cells12 HS6.out.2.2.1
  have yf6 := HS6.out.2.2.1.frozen
  have HS6b : Hid (St w gr Bs g3 24 #[.int .u8 4, .int .u32 0, .int .u32 ((num Bs 1 4 : Nat) : Int), .int .i64 0, .int .u64 0, .int .u32 ((num Bs 5 4 : Nat) : Int), .int .u32 ((num Bs 9 4 : Nat) : Int), .int .u32 ((num Bs 13 4 : Nat) : Int), .int .u32 ((num Bs 17 4 : Nat) : Int), .bool (decide (num Bs 21 1 = 1)), .slice none 0 0, .int .i64 ((num Bs 22 2 : Nat) : Int)] (w6.setCell ⟨g3, 11, none⟩ (.int .i64 ((num Bs 22 2 : Nat) : Int)))) := Lib.hid (HS6.out.set 11 (.int .i64 ((num Bs 22 2 : Nat) : Int)))
  obtain ⟨A0, c0, hrb, hc0, hrd0, hp0⟩ := HS6b.out.1
  have hcr := hrb.cell 0
  rw [HMM.out] at hcr
  clear hrb hc0 hrd0 hp0
  go_wp2_with fail
  refine (TT.out _ HS6b.out.1).mono ?_
  rintro e w7 ⟨A1, c1, rfl, hrd1, hr7, hb7, hk7⟩
  have HS7 := Lib.hid (HS6b.out.call hr7 hb7 hk7)
  have hz3 : gr ≤ w7.heap.size := Nat.le_of_lt hr7.lt
  have hrd2 := hrd1.rd hz3
  clear HS6b HS6 y6 yf6 hcr hr7 hb7 hk7 hrd1
  go_wp2_with fail
  refine (HCL.out _ _ _ hrd2).mono ?_
  rintro e w8 ⟨A2, c2, rfl, hown, hbc⟩
  have HOW := Lib.hid hown
  have hz4 : g3 < w7.heap.size := HS7.out.2.2.1.lt
  have HS8 := Lib.hid (HS7.out.below hbc)
  clear HS7 hbc hrd2 hown
  have y8 := cells12 HS8.out.2.2.1
  have yf8 := HS8.out.2.2.1.frozen
  have x8 := cells12 HS8.out.2.1
  have xf8 := HS8.out.2.1.frozen
  go_wp2_with fail
  refine bodyPost_ret (v := .agg #[.int .u8 4, .int .u32 0, .int .u32 ((num Bs 1 4 : Nat) : Int), .int .i64 0, .int .u64 0, .int .u32 ((num Bs 5 4 : Nat) : Int), .int .u32 ((num Bs 9 4 : Nat) : Int), .int .u32 ((num Bs 13 4 : Nat) : Int), .int .u32 ((num Bs 17 4 : Nat) : Int), .bool (decide (num Bs 21 1 = 1)), .slice A2 m c2, .int .i64 ((num Bs 22 2 : Nat) : Int)]) (by simp [results, Try.results24, go_sem, x8]) rfl ?_
  have hgg : gr < g3 := by omega
  refine ⟨A2, c2, rfl, ?_, ?_, ?_, ?_⟩
  · iterate 13 with_reducible refine own_far ?_ (fun e => by have := HOW.out.lt _ e; simp at this; omega) _
    exact own_base HOW.out (by omega)
  · iterate 13 with_reducible refine Rr.set_far ?_ (by omega) _ _
    rw [HMM.out]; exact HS8.out.1
  · iterate 13 with_reducible refine Below.setCell ?_ (Nat.le_of_lt (by first | exact hgl | exact hgg)) _
    exact HS8.out.2.2.2.1
  · iterate 13 with_reducible refine KeepN.set_new ?_ (by omega) _ _
    exact HS8.out.2.2.2.2.1


set_option maxRecDepth 100000 in
set_option maxHeartbeats 4000000 in
theorem short_one (gr : Nat) (Bs : List Int) (w : World) (hrr : Rr w gr Bs 0) (hB : Byts Bs) (hl : (Bs.length : Int) ≤ 1000000) (hk : Bs.getD 0 0 = 1) (hlen : 0 + 1 ≤ Bs.length) (hs : Bs.length < 5) :
    Calls Try.prog 24 #[.pointer (some ⟨gr, 0, none⟩)] w (Shorts gr w) := by
  have hgl := hrr.lt
  have hrr0 := hrr.alloc (.cells #[.int .u8 0, .int .u32 0, .int .u32 0, .int .i64 0, .int .u64 0, .int .u32 0, .int .u32 0, .int .u32 0, .int .u32 0, .bool false, .slice none 0 0, .int .i64 0] 32)
  have T1 := fun wx (h : Rr wx gr Bs 0) => rnumber_fits gr Bs 0 1 wx h hB hl (by decide) (by exact hlen)
  unfold RetNum at T1
  rw [num_one (k := 1) hk] at T1
  have HT1 := Lib.hid T1
  have TS := fun p wx (h : Rr wx gr Bs p) (hh : p + 4 ≤ Bs.length) => small_fits gr Bs p wx h hB hl hh
  unfold RetSmall at TS
  have HTS := Lib.hid TS
  have TN := fun p W wx (h : Rr wx gr Bs p) (hW : W ≤ 8) (hh : p + W ≤ Bs.length) => rnumber_fits gr Bs p W wx h hB hl hW hh
  unfold RetNum at TN
  have HTN := Lib.hid TN
  have TP := fun p wx (h : Rr wx gr Bs p) (hh : p + 12 ≤ Bs.length) => place_fits gr Bs p wx h hB hl hh
  unfold RetPlace at TP
  have HTP := Lib.hid TP
  have SS := Lib.hid (fun p wx (h : Rr wx gr Bs p) (hh : Bs.length < p + 4) => small_short gr Bs p wx h hl hh)
  have SN := Lib.hid (fun p W wx (h : Rr wx gr Bs p) (hW : W ≤ 8) (hh : Bs.length < p + W) => rnumber_short gr Bs p W wx h hl hW hh)
  have SP := Lib.hid (fun p wx (h : Rr wx gr Bs p) (hh : Bs.length < p + 12) => place_short gr Bs p wx h hB hl hh)
  clear T1 TS TN TP hrr hB hl hk
  have hb0 : Below gr w (w.alloc (.cells #[.int .u8 0, .int .u32 0, .int .u32 0, .int .i64 0, .int .u64 0, .int .u32 0, .int .u32 0, .int .u32 0, .int .u32 0, .bool false, .slice none 0 0, .int .i64 0] 32)) := (Below.refl _ _).alloc (Nat.le_of_lt hgl) _
  have hk0 : KeepN gr w (w.alloc (.cells #[.int .u8 0, .int .u32 0, .int .u32 0, .int .i64 0, .int .u64 0, .int .u32 0, .int .u32 0, .int .u32 0, .int .u32 0, .bool false, .slice none 0 0, .int .i64 0] 32)) := (KeepN.refl _ _).alloc _
  have HX := Lib.hid (Blk.new w 32 #[.int .u8 0, .int .u32 0, .int .u32 0, .int .i64 0, .int .u64 0, .int .u32 0, .int .u32 0, .int .u32 0, .int .u32 0, .bool false, .slice none 0 0, .int .i64 0])
  have hgn : ¬ w.heap.size = gr := by omega
  go_enter Try.func24, Try.ntmps24
  go_wp2_with fail
  refine (HT1.out _ hrr0).mono ?_
  rintro e w1 ⟨rfl, hr1, hb1, hk1⟩
  have HS1 := Lib.hid (St.new (cs := #[.int .u8 1, .int .u32 0, .int .u32 0, .int .i64 0, .int .u64 0, .int .u32 0, .int .u32 0, .int .u32 0, .int .u32 0, .bool false, .slice none 0 0, .int .i64 0]) hr1 (hk1 _ _ _ hgn HX.out) (hb0.trans hb1) (hk0.trans hk1) hgl)
  have hz1 : w.heap.size < w1.heap.size := (hk1 _ _ _ hgn HX.out).lt
  have hz2 : gr < w1.heap.size := hr1.lt
  obtain ⟨g3, hg3⟩ : ∃ g, w1.heap.size = g := ⟨_, rfl⟩
  rw [hg3] at HS1 hz1 hz2
  have HG3 := Lib.hid hg3
  obtain ⟨v1, hv1⟩ : ∃ v, w1.alloc (.cells #[.int .u8 1, .int .u32 0, .int .u32 0, .int .i64 0, .int .u64 0, .int .u32 0, .int .u32 0, .int .u32 0, .int .u32 0, .bool false, .slice none 0 0, .int .i64 0] 32) = v := ⟨_, rfl⟩
  rw [hv1] at HS1
  have HV1 := Lib.hid hv1
  clear hb0 hk0 hr1 hb1 hk1 hrr0 HX hg3 hv1
  go_wp2_with fail
  rw [HV1.out, HG3.out]
  by_cases h2 : Bs.length < 1 + 4
  · refine (SS.out 1 _ HS1.out.1 h2).mono ?_
    rintro e w2 ⟨rfl, hb2, hk2⟩
    exact ⟨rfl, rfl, HS1.out.2.2.2.1.trans hb2, HS1.out.2.2.2.2.1.trans hk2⟩
  exfalso
  omega

set_option maxRecDepth 100000 in
set_option maxHeartbeats 4000000 in
theorem short_two (gr : Nat) (Bs : List Int) (w : World) (hrr : Rr w gr Bs 0) (hB : Byts Bs) (hl : (Bs.length : Int) ≤ 1000000) (hk : Bs.getD 0 0 = 2) (hlen : 0 + 1 ≤ Bs.length) (hs : Bs.length < 21) :
    Calls Try.prog 24 #[.pointer (some ⟨gr, 0, none⟩)] w (Shorts gr w) := by
  have hgl := hrr.lt
  have hrr0 := hrr.alloc (.cells #[.int .u8 0, .int .u32 0, .int .u32 0, .int .i64 0, .int .u64 0, .int .u32 0, .int .u32 0, .int .u32 0, .int .u32 0, .bool false, .slice none 0 0, .int .i64 0] 32)
  have T1 := fun wx (h : Rr wx gr Bs 0) => rnumber_fits gr Bs 0 1 wx h hB hl (by decide) (by exact hlen)
  unfold RetNum at T1
  rw [num_one (k := 2) hk] at T1
  have HT1 := Lib.hid T1
  have TS := fun p wx (h : Rr wx gr Bs p) (hh : p + 4 ≤ Bs.length) => small_fits gr Bs p wx h hB hl hh
  unfold RetSmall at TS
  have HTS := Lib.hid TS
  have TN := fun p W wx (h : Rr wx gr Bs p) (hW : W ≤ 8) (hh : p + W ≤ Bs.length) => rnumber_fits gr Bs p W wx h hB hl hW hh
  unfold RetNum at TN
  have HTN := Lib.hid TN
  have TP := fun p wx (h : Rr wx gr Bs p) (hh : p + 12 ≤ Bs.length) => place_fits gr Bs p wx h hB hl hh
  unfold RetPlace at TP
  have HTP := Lib.hid TP
  have SS := Lib.hid (fun p wx (h : Rr wx gr Bs p) (hh : Bs.length < p + 4) => small_short gr Bs p wx h hl hh)
  have SN := Lib.hid (fun p W wx (h : Rr wx gr Bs p) (hW : W ≤ 8) (hh : Bs.length < p + W) => rnumber_short gr Bs p W wx h hl hW hh)
  have SP := Lib.hid (fun p wx (h : Rr wx gr Bs p) (hh : Bs.length < p + 12) => place_short gr Bs p wx h hB hl hh)
  clear T1 TS TN TP hrr hB hl hk
  have hb0 : Below gr w (w.alloc (.cells #[.int .u8 0, .int .u32 0, .int .u32 0, .int .i64 0, .int .u64 0, .int .u32 0, .int .u32 0, .int .u32 0, .int .u32 0, .bool false, .slice none 0 0, .int .i64 0] 32)) := (Below.refl _ _).alloc (Nat.le_of_lt hgl) _
  have hk0 : KeepN gr w (w.alloc (.cells #[.int .u8 0, .int .u32 0, .int .u32 0, .int .i64 0, .int .u64 0, .int .u32 0, .int .u32 0, .int .u32 0, .int .u32 0, .bool false, .slice none 0 0, .int .i64 0] 32)) := (KeepN.refl _ _).alloc _
  have HX := Lib.hid (Blk.new w 32 #[.int .u8 0, .int .u32 0, .int .u32 0, .int .i64 0, .int .u64 0, .int .u32 0, .int .u32 0, .int .u32 0, .int .u32 0, .bool false, .slice none 0 0, .int .i64 0])
  have hgn : ¬ w.heap.size = gr := by omega
  go_enter Try.func24, Try.ntmps24
  go_wp2_with fail
  refine (HT1.out _ hrr0).mono ?_
  rintro e w1 ⟨rfl, hr1, hb1, hk1⟩
  have HS1 := Lib.hid (St.new (cs := #[.int .u8 2, .int .u32 0, .int .u32 0, .int .i64 0, .int .u64 0, .int .u32 0, .int .u32 0, .int .u32 0, .int .u32 0, .bool false, .slice none 0 0, .int .i64 0]) hr1 (hk1 _ _ _ hgn HX.out) (hb0.trans hb1) (hk0.trans hk1) hgl)
  have hz1 : w.heap.size < w1.heap.size := (hk1 _ _ _ hgn HX.out).lt
  have hz2 : gr < w1.heap.size := hr1.lt
  obtain ⟨g3, hg3⟩ : ∃ g, w1.heap.size = g := ⟨_, rfl⟩
  rw [hg3] at HS1 hz1 hz2
  have HG3 := Lib.hid hg3
  obtain ⟨v1, hv1⟩ : ∃ v, w1.alloc (.cells #[.int .u8 2, .int .u32 0, .int .u32 0, .int .i64 0, .int .u64 0, .int .u32 0, .int .u32 0, .int .u32 0, .int .u32 0, .bool false, .slice none 0 0, .int .i64 0] 32) = v := ⟨_, rfl⟩
  rw [hv1] at HS1
  have HV1 := Lib.hid hv1
  clear hb0 hk0 hr1 hb1 hk1 hrr0 HX hg3 hv1
  go_wp2_with fail
  rw [HV1.out, HG3.out]
  by_cases h2 : Bs.length < 1 + 4
  · refine (SS.out 1 _ HS1.out.1 h2).mono ?_
    rintro e w2 ⟨rfl, hb2, hk2⟩
    exact ⟨rfl, rfl, HS1.out.2.2.2.1.trans hb2, HS1.out.2.2.2.2.1.trans hk2⟩
  refine (HTS.out 1 _ HS1.out.1 (by omega)).mono ?_
  rintro e w2 ⟨rfl, hr2, hb2, hk2⟩
  have HS2 := Lib.hid (HS1.out.call hr2 hb2 hk2)
  clear HS1 hr2 hb2 hk2
  have y2 := cells12 HS2.out.2.2.1
  have yf2 := HS2.out.2.2.1.frozen
  have HS2b : Hid (St w gr Bs g3 5 #[.int .u8 2, .int .u32 0, .int .u32 ((num Bs 1 4 : Nat) : Int), .int .i64 0, .int .u64 0, .int .u32 0, .int .u32 0, .int .u32 0, .int .u32 0, .bool false, .slice none 0 0, .int .i64 0] (w2.setCell ⟨g3, 2, none⟩ (.int .u32 ((num Bs 1 4 : Nat) : Int)))) := Lib.hid (HS2.out.set 2 (.int .u32 ((num Bs 1 4 : Nat) : Int)))
  go_wp2_with fail
  clear y2 yf2 HS2
  by_cases h3 : Bs.length < 5 + 8
  · refine (SN.out 5 8 _ HS2b.out.1 (by decide) h3).mono ?_
    rintro e w3 ⟨rfl, hb3, hk3⟩
    exact ⟨rfl, rfl, HS2b.out.2.2.2.1.trans hb3, HS2b.out.2.2.2.2.1.trans hk3⟩
  refine (HTN.out 5 8 _ HS2b.out.1 (by decide) (by omega)).mono ?_
  rintro e w3 ⟨rfl, hr3, hb3, hk3⟩
  have HS3 := Lib.hid (HS2b.out.call hr3 hb3 hk3)
  clear HS2b hr3 hb3 hk3
  go_wp2_with fail
  by_cases h4 : Bs.length < 13 + 8
  · refine (SN.out 13 8 _ HS3.out.1 (by decide) h4).mono ?_
    rintro e w4 ⟨rfl, hb4, hk4⟩
    exact ⟨rfl, rfl, HS3.out.2.2.2.1.trans hb4, HS3.out.2.2.2.2.1.trans hk4⟩
  exfalso
  omega

set_option maxRecDepth 100000 in
set_option maxHeartbeats 4000000 in
theorem short_three (gr : Nat) (Bs : List Int) (w : World) (hrr : Rr w gr Bs 0) (hB : Byts Bs) (hl : (Bs.length : Int) ≤ 1000000) (hk : Bs.getD 0 0 = 3) (hlen : 0 + 1 ≤ Bs.length) (hs : Bs.length < 17) :
    Calls Try.prog 24 #[.pointer (some ⟨gr, 0, none⟩)] w (Shorts gr w) := by
  have hgl := hrr.lt
  have hrr0 := hrr.alloc (.cells #[.int .u8 0, .int .u32 0, .int .u32 0, .int .i64 0, .int .u64 0, .int .u32 0, .int .u32 0, .int .u32 0, .int .u32 0, .bool false, .slice none 0 0, .int .i64 0] 32)
  have T1 := fun wx (h : Rr wx gr Bs 0) => rnumber_fits gr Bs 0 1 wx h hB hl (by decide) (by exact hlen)
  unfold RetNum at T1
  rw [num_one (k := 3) hk] at T1
  have HT1 := Lib.hid T1
  have TS := fun p wx (h : Rr wx gr Bs p) (hh : p + 4 ≤ Bs.length) => small_fits gr Bs p wx h hB hl hh
  unfold RetSmall at TS
  have HTS := Lib.hid TS
  have TN := fun p W wx (h : Rr wx gr Bs p) (hW : W ≤ 8) (hh : p + W ≤ Bs.length) => rnumber_fits gr Bs p W wx h hB hl hW hh
  unfold RetNum at TN
  have HTN := Lib.hid TN
  have TP := fun p wx (h : Rr wx gr Bs p) (hh : p + 12 ≤ Bs.length) => place_fits gr Bs p wx h hB hl hh
  unfold RetPlace at TP
  have HTP := Lib.hid TP
  have SS := Lib.hid (fun p wx (h : Rr wx gr Bs p) (hh : Bs.length < p + 4) => small_short gr Bs p wx h hl hh)
  have SN := Lib.hid (fun p W wx (h : Rr wx gr Bs p) (hW : W ≤ 8) (hh : Bs.length < p + W) => rnumber_short gr Bs p W wx h hl hW hh)
  have SP := Lib.hid (fun p wx (h : Rr wx gr Bs p) (hh : Bs.length < p + 12) => place_short gr Bs p wx h hB hl hh)
  clear T1 TS TN TP hrr hB hl hk
  have hb0 : Below gr w (w.alloc (.cells #[.int .u8 0, .int .u32 0, .int .u32 0, .int .i64 0, .int .u64 0, .int .u32 0, .int .u32 0, .int .u32 0, .int .u32 0, .bool false, .slice none 0 0, .int .i64 0] 32)) := (Below.refl _ _).alloc (Nat.le_of_lt hgl) _
  have hk0 : KeepN gr w (w.alloc (.cells #[.int .u8 0, .int .u32 0, .int .u32 0, .int .i64 0, .int .u64 0, .int .u32 0, .int .u32 0, .int .u32 0, .int .u32 0, .bool false, .slice none 0 0, .int .i64 0] 32)) := (KeepN.refl _ _).alloc _
  have HX := Lib.hid (Blk.new w 32 #[.int .u8 0, .int .u32 0, .int .u32 0, .int .i64 0, .int .u64 0, .int .u32 0, .int .u32 0, .int .u32 0, .int .u32 0, .bool false, .slice none 0 0, .int .i64 0])
  have hgn : ¬ w.heap.size = gr := by omega
  go_enter Try.func24, Try.ntmps24
  go_wp2_with fail
  refine (HT1.out _ hrr0).mono ?_
  rintro e w1 ⟨rfl, hr1, hb1, hk1⟩
  have HS1 := Lib.hid (St.new (cs := #[.int .u8 3, .int .u32 0, .int .u32 0, .int .i64 0, .int .u64 0, .int .u32 0, .int .u32 0, .int .u32 0, .int .u32 0, .bool false, .slice none 0 0, .int .i64 0]) hr1 (hk1 _ _ _ hgn HX.out) (hb0.trans hb1) (hk0.trans hk1) hgl)
  have hz1 : w.heap.size < w1.heap.size := (hk1 _ _ _ hgn HX.out).lt
  have hz2 : gr < w1.heap.size := hr1.lt
  obtain ⟨g3, hg3⟩ : ∃ g, w1.heap.size = g := ⟨_, rfl⟩
  rw [hg3] at HS1 hz1 hz2
  have HG3 := Lib.hid hg3
  obtain ⟨v1, hv1⟩ : ∃ v, w1.alloc (.cells #[.int .u8 3, .int .u32 0, .int .u32 0, .int .i64 0, .int .u64 0, .int .u32 0, .int .u32 0, .int .u32 0, .int .u32 0, .bool false, .slice none 0 0, .int .i64 0] 32) = v := ⟨_, rfl⟩
  rw [hv1] at HS1
  have HV1 := Lib.hid hv1
  clear hb0 hk0 hr1 hb1 hk1 hrr0 HX hg3 hv1
  go_wp2_with fail
  rw [HV1.out, HG3.out]
  by_cases h2 : Bs.length < 1 + 4
  · refine (SS.out 1 _ HS1.out.1 h2).mono ?_
    rintro e w2 ⟨rfl, hb2, hk2⟩
    exact ⟨rfl, rfl, HS1.out.2.2.2.1.trans hb2, HS1.out.2.2.2.2.1.trans hk2⟩
  refine (HTS.out 1 _ HS1.out.1 (by omega)).mono ?_
  rintro e w2 ⟨rfl, hr2, hb2, hk2⟩
  have HS2 := Lib.hid (HS1.out.call hr2 hb2 hk2)
  clear HS1 hr2 hb2 hk2
  go_wp2_with fail
  by_cases h3 : Bs.length < 5 + 12
  · refine (SP.out 5 _ HS2.out.1 h3).mono ?_
    rintro e w3 ⟨rfl, hb3, hk3⟩
    exact ⟨rfl, rfl, HS2.out.2.2.2.1.trans hb3, HS2.out.2.2.2.2.1.trans hk3⟩
  exfalso
  omega

set_option maxRecDepth 100000 in
set_option maxHeartbeats 4000000 in
theorem short_four (gr : Nat) (Bs : List Int) (w : World) (hrr : Rr w gr Bs 0) (hB : Byts Bs) (hl : (Bs.length : Int) ≤ 1000000) (hk : Bs.getD 0 0 = 4) (hlen : 0 + 1 ≤ Bs.length) (hs : Bs.length < 24 ∨ 1 < num Bs 21 1) :
    Calls Try.prog 24 #[.pointer (some ⟨gr, 0, none⟩)] w (Shorts gr w) := by
  have hgl := hrr.lt
  have hrr0 := hrr.alloc (.cells #[.int .u8 0, .int .u32 0, .int .u32 0, .int .i64 0, .int .u64 0, .int .u32 0, .int .u32 0, .int .u32 0, .int .u32 0, .bool false, .slice none 0 0, .int .i64 0] 32)
  have T1 := fun wx (h : Rr wx gr Bs 0) => rnumber_fits gr Bs 0 1 wx h hB hl (by decide) (by exact hlen)
  unfold RetNum at T1
  rw [num_one (k := 4) hk] at T1
  have HT1 := Lib.hid T1
  have TS := fun p wx (h : Rr wx gr Bs p) (hh : p + 4 ≤ Bs.length) => small_fits gr Bs p wx h hB hl hh
  unfold RetSmall at TS
  have HTS := Lib.hid TS
  have TN := fun p W wx (h : Rr wx gr Bs p) (hW : W ≤ 8) (hh : p + W ≤ Bs.length) => rnumber_fits gr Bs p W wx h hB hl hW hh
  unfold RetNum at TN
  have HTN := Lib.hid TN
  have TP := fun p wx (h : Rr wx gr Bs p) (hh : p + 12 ≤ Bs.length) => place_fits gr Bs p wx h hB hl hh
  unfold RetPlace at TP
  have HTP := Lib.hid TP
  have SS := Lib.hid (fun p wx (h : Rr wx gr Bs p) (hh : Bs.length < p + 4) => small_short gr Bs p wx h hl hh)
  have SN := Lib.hid (fun p W wx (h : Rr wx gr Bs p) (hW : W ≤ 8) (hh : Bs.length < p + W) => rnumber_short gr Bs p W wx h hl hW hh)
  have SP := Lib.hid (fun p wx (h : Rr wx gr Bs p) (hh : Bs.length < p + 12) => place_short gr Bs p wx h hB hl hh)
  have FL := Lib.hid (fun (hf : num Bs 21 1 ≤ 1) wx => flag_any (num Bs 21 1) hf wx)
  have FS := Lib.hid (fun (hf : 1 < num Bs 21 1) wx => flag_short (num Bs 21 1) hf wx)
  have HH := Lib.hid hs
  clear hs
  clear T1 TS TN TP hrr hB hl hk
  have hb0 : Below gr w (w.alloc (.cells #[.int .u8 0, .int .u32 0, .int .u32 0, .int .i64 0, .int .u64 0, .int .u32 0, .int .u32 0, .int .u32 0, .int .u32 0, .bool false, .slice none 0 0, .int .i64 0] 32)) := (Below.refl _ _).alloc (Nat.le_of_lt hgl) _
  have hk0 : KeepN gr w (w.alloc (.cells #[.int .u8 0, .int .u32 0, .int .u32 0, .int .i64 0, .int .u64 0, .int .u32 0, .int .u32 0, .int .u32 0, .int .u32 0, .bool false, .slice none 0 0, .int .i64 0] 32)) := (KeepN.refl _ _).alloc _
  have HX := Lib.hid (Blk.new w 32 #[.int .u8 0, .int .u32 0, .int .u32 0, .int .i64 0, .int .u64 0, .int .u32 0, .int .u32 0, .int .u32 0, .int .u32 0, .bool false, .slice none 0 0, .int .i64 0])
  have hgn : ¬ w.heap.size = gr := by omega
  go_enter Try.func24, Try.ntmps24
  go_wp2_with fail
  refine (HT1.out _ hrr0).mono ?_
  rintro e w1 ⟨rfl, hr1, hb1, hk1⟩
  have HS1 := Lib.hid (St.new (cs := #[.int .u8 4, .int .u32 0, .int .u32 0, .int .i64 0, .int .u64 0, .int .u32 0, .int .u32 0, .int .u32 0, .int .u32 0, .bool false, .slice none 0 0, .int .i64 0]) hr1 (hk1 _ _ _ hgn HX.out) (hb0.trans hb1) (hk0.trans hk1) hgl)
  have hz1 : w.heap.size < w1.heap.size := (hk1 _ _ _ hgn HX.out).lt
  have hz2 : gr < w1.heap.size := hr1.lt
  obtain ⟨g3, hg3⟩ : ∃ g, w1.heap.size = g := ⟨_, rfl⟩
  rw [hg3] at HS1 hz1 hz2
  have HG3 := Lib.hid hg3
  obtain ⟨v1, hv1⟩ : ∃ v, w1.alloc (.cells #[.int .u8 4, .int .u32 0, .int .u32 0, .int .i64 0, .int .u64 0, .int .u32 0, .int .u32 0, .int .u32 0, .int .u32 0, .bool false, .slice none 0 0, .int .i64 0] 32) = v := ⟨_, rfl⟩
  rw [hv1] at HS1
  have HV1 := Lib.hid hv1
  clear hb0 hk0 hr1 hb1 hk1 hrr0 HX hg3 hv1
  go_wp2_with fail
  rw [HV1.out, HG3.out]
  by_cases h2 : Bs.length < 1 + 4
  · refine (SS.out 1 _ HS1.out.1 h2).mono ?_
    rintro e w2 ⟨rfl, hb2, hk2⟩
    exact ⟨rfl, rfl, HS1.out.2.2.2.1.trans hb2, HS1.out.2.2.2.2.1.trans hk2⟩
  refine (HTS.out 1 _ HS1.out.1 (by omega)).mono ?_
  rintro e w2 ⟨rfl, hr2, hb2, hk2⟩
  have HS2 := Lib.hid (HS1.out.call hr2 hb2 hk2)
  clear HS1 hr2 hb2 hk2
  go_wp2_with fail
  by_cases h3 : Bs.length < 5 + 12
  · refine (SP.out 5 _ HS2.out.1 h3).mono ?_
    rintro e w3 ⟨rfl, hb3, hk3⟩
    exact ⟨rfl, rfl, HS2.out.2.2.2.1.trans hb3, HS2.out.2.2.2.2.1.trans hk3⟩
  refine (HTP.out 5 _ HS2.out.1 (by omega)).mono ?_
  rintro e w3 ⟨rfl, hr3, hb3, hk3⟩
  have HS3 := Lib.hid (HS2.out.call hr3 hb3 hk3)
  clear HS2 hr3 hb3 hk3
  have y3 := cells12 HS3.out.2.2.1
  have yf3 := HS3.out.2.2.1.frozen
  have HS3b : Hid (St w gr Bs g3 17 #[.int .u8 4, .int .u32 0, .int .u32 ((num Bs 1 4 : Nat) : Int), .int .i64 0, .int .u64 0, .int .u32 ((num Bs 5 4 : Nat) : Int), .int .u32 ((num Bs 9 4 : Nat) : Int), .int .u32 ((num Bs 13 4 : Nat) : Int), .int .u32 0, .bool false, .slice none 0 0, .int .i64 0] ((((w3.setCell ⟨g3, 2, none⟩ (.int .u32 ((num Bs 1 4 : Nat) : Int))).setCell ⟨g3, 5, none⟩ (.int .u32 ((num Bs 5 4 : Nat) : Int))).setCell ⟨g3, 6, none⟩ (.int .u32 ((num Bs 9 4 : Nat) : Int))).setCell ⟨g3, 7, none⟩ (.int .u32 ((num Bs 13 4 : Nat) : Int)))) := Lib.hid ((((HS3.out.set 2 (.int .u32 ((num Bs 1 4 : Nat) : Int))).set 5 (.int .u32 ((num Bs 5 4 : Nat) : Int))).set 6 (.int .u32 ((num Bs 9 4 : Nat) : Int))).set 7 (.int .u32 ((num Bs 13 4 : Nat) : Int)))
  go_wp2_with fail
  clear y3 yf3 HS3
  by_cases h4 : Bs.length < 17 + 4
  · refine (SS.out 17 _ HS3b.out.1 h4).mono ?_
    rintro e w4 ⟨rfl, hb4, hk4⟩
    exact ⟨rfl, rfl, HS3b.out.2.2.2.1.trans hb4, HS3b.out.2.2.2.2.1.trans hk4⟩
  refine (HTS.out 17 _ HS3b.out.1 (by omega)).mono ?_
  rintro e w4 ⟨rfl, hr4, hb4, hk4⟩
  have HS4 := Lib.hid (HS3b.out.call hr4 hb4 hk4)
  clear HS3b hr4 hb4 hk4
  have y4 := cells12 HS4.out.2.2.1
  have yf4 := HS4.out.2.2.1.frozen
  have HS4b : Hid (St w gr Bs g3 21 #[.int .u8 4, .int .u32 0, .int .u32 ((num Bs 1 4 : Nat) : Int), .int .i64 0, .int .u64 0, .int .u32 ((num Bs 5 4 : Nat) : Int), .int .u32 ((num Bs 9 4 : Nat) : Int), .int .u32 ((num Bs 13 4 : Nat) : Int), .int .u32 ((num Bs 17 4 : Nat) : Int), .bool false, .slice none 0 0, .int .i64 0] (w4.setCell ⟨g3, 8, none⟩ (.int .u32 ((num Bs 17 4 : Nat) : Int)))) := Lib.hid (HS4.out.set 8 (.int .u32 ((num Bs 17 4 : Nat) : Int)))
  go_wp2_with fail
  clear y4 yf4 HS4
  by_cases h5 : Bs.length < 21 + 1
  · refine (SN.out 21 1 _ HS4b.out.1 (by decide) h5).mono ?_
    rintro e w5 ⟨rfl, hb5, hk5⟩
    exact ⟨rfl, rfl, HS4b.out.2.2.2.1.trans hb5, HS4b.out.2.2.2.2.1.trans hk5⟩
  refine (HTN.out 21 1 _ HS4b.out.1 (by decide) (by omega)).mono ?_
  rintro e w5 ⟨rfl, hr5, hb5, hk5⟩
  have HS5 := Lib.hid (HS4b.out.call hr5 hb5 hk5)
  clear HS4b hr5 hb5 hk5
  go_wp2_with fail
  by_cases hf : 1 < num Bs 21 1
  · refine (FS.out hf _).mono ?_
    rintro e w5' ⟨rfl, rfl⟩
    exact ⟨rfl, rfl, HS5.out.2.2.2.1, HS5.out.2.2.2.2.1⟩
  refine (FL.out (by omega) _).mono ?_
  rintro e w5' ⟨rfl, rfl⟩
  have HF := Lib.hid hf
  clear hf
  have y5 := cells12 HS5.out.2.2.1
  have yf5 := HS5.out.2.2.1.frozen
  have HS5b : Hid (St w gr Bs g3 22 #[.int .u8 4, .int .u32 0, .int .u32 ((num Bs 1 4 : Nat) : Int), .int .i64 0, .int .u64 0, .int .u32 ((num Bs 5 4 : Nat) : Int), .int .u32 ((num Bs 9 4 : Nat) : Int), .int .u32 ((num Bs 13 4 : Nat) : Int), .int .u32 ((num Bs 17 4 : Nat) : Int), .bool (decide (num Bs 21 1 = 1)), .slice none 0 0, .int .i64 0] (w5.setCell ⟨g3, 9, none⟩ (.bool (decide (num Bs 21 1 = 1))))) := Lib.hid (HS5.out.set 9 (.bool (decide (num Bs 21 1 = 1))))
  go_wp2_with fail
  clear y5 yf5 HS5
  by_cases h6 : Bs.length < 22 + 2
  · refine (SN.out 22 2 _ HS5b.out.1 (by decide) h6).mono ?_
    rintro e w6 ⟨rfl, hb6, hk6⟩
    exact ⟨rfl, rfl, HS5b.out.2.2.2.1.trans hb6, HS5b.out.2.2.2.2.1.trans hk6⟩
  exfalso
  rcases HH.out with h | h
  · omega
  · exact HF.out h

set_option maxHeartbeats 1000000 in
theorem short_nil (gr : Nat) (w : World) (hrr : Rr w gr [] 0) :
    Calls Try.prog 24 #[.pointer (some ⟨gr, 0, none⟩)] w (Shorts gr w) := by
  have hgl := hrr.lt
  have hrr0 := hrr.alloc (.cells #[.int .u8 0, .int .u32 0, .int .u32 0, .int .i64 0, .int .u64 0, .int .u32 0, .int .u32 0, .int .u32 0, .int .u32 0, .bool false, .slice none 0 0, .int .i64 0] 32)
  have SN := Lib.hid (fun wx (h : Rr wx gr [] 0) => rnumber_short gr [] 0 1 wx h (by simp) (by decide) (by simp))
  have hb0 : Below gr w (w.alloc (.cells #[.int .u8 0, .int .u32 0, .int .u32 0, .int .i64 0, .int .u64 0, .int .u32 0, .int .u32 0, .int .u32 0, .int .u32 0, .bool false, .slice none 0 0, .int .i64 0] 32)) := (Below.refl _ _).alloc (Nat.le_of_lt hgl) _
  have hk0 : KeepN gr w (w.alloc (.cells #[.int .u8 0, .int .u32 0, .int .u32 0, .int .i64 0, .int .u64 0, .int .u32 0, .int .u32 0, .int .u32 0, .int .u32 0, .bool false, .slice none 0 0, .int .i64 0] 32)) := (KeepN.refl _ _).alloc _
  go_enter Try.func24, Try.ntmps24
  go_wp2_with fail
  refine (SN.out _ hrr0).mono ?_
  rintro e w1 ⟨rfl, hb1, hk1⟩
  exact ⟨rfl, rfl, hb0.trans hb1, hk0.trans hk1⟩

set_option maxRecDepth 100000 in
set_option maxHeartbeats 1000000 in
theorem short_other (gr : Nat) (Bs : List Int) (w : World) (hrr : Rr w gr Bs 0) (hB : Byts Bs) (hl : (Bs.length : Int) ≤ 1000000) (hlen : 0 + 1 ≤ Bs.length) (h1 : ¬ Bs.getD 0 0 = 1) (h2 : ¬ Bs.getD 0 0 = 2) (h3 : ¬ Bs.getD 0 0 = 3) (h4 : ¬ Bs.getD 0 0 = 4) :
    Calls Try.prog 24 #[.pointer (some ⟨gr, 0, none⟩)] w (Shorts gr w) := by
  have hgl := hrr.lt
  have hrr0 := hrr.alloc (.cells #[.int .u8 0, .int .u32 0, .int .u32 0, .int .i64 0, .int .u64 0, .int .u32 0, .int .u32 0, .int .u32 0, .int .u32 0, .bool false, .slice none 0 0, .int .i64 0] 32)
  have T1 := fun wx (h : Rr wx gr Bs 0) => rnumber_fits gr Bs 0 1 wx h hB hl (by decide) (by exact hlen)
  unfold RetNum at T1
  have hb8 := byts_get hB 0
  obtain ⟨k, hk⟩ : ∃ k : Nat, Bs.getD 0 0 = (k : Int) := ⟨(Bs.getD 0 0).toNat, by omega⟩
  rw [num_one hk] at T1
  rw [hk] at h1 h2 h3 h4 hb8
  have HT1 := Lib.hid T1
  have d1 : ((k : Int) == 1) = false := by rw [beq_eq_false_iff_ne]; exact h1
  have d2 : ((k : Int) == 2) = false := by rw [beq_eq_false_iff_ne]; exact h2
  have d3 : ((k : Int) == 3) = false := by rw [beq_eq_false_iff_ne]; exact h3
  have d4 : ((k : Int) == 4) = false := by rw [beq_eq_false_iff_ne]; exact h4
  have hkI : (k : Int) < 256 := hb8.2
  have hb0 : Below gr w (w.alloc (.cells #[.int .u8 0, .int .u32 0, .int .u32 0, .int .i64 0, .int .u64 0, .int .u32 0, .int .u32 0, .int .u32 0, .int .u32 0, .bool false, .slice none 0 0, .int .i64 0] 32)) := (Below.refl _ _).alloc (Nat.le_of_lt hgl) _
  have hk0 : KeepN gr w (w.alloc (.cells #[.int .u8 0, .int .u32 0, .int .u32 0, .int .i64 0, .int .u64 0, .int .u32 0, .int .u32 0, .int .u32 0, .int .u32 0, .bool false, .slice none 0 0, .int .i64 0] 32)) := (KeepN.refl _ _).alloc _
  clear T1 hrr hB hl hk h1 h2 h3 h4 hb8
  go_enter Try.func24, Try.ntmps24
  go_wp2_with fail
  refine (HT1.out _ hrr0).mono ?_
  rintro e w1 ⟨rfl, hr1, hb1, hk1⟩
  have hz := hr1.lt
  have HK1 := Lib.hid hk1
  clear hk1 hr1 hrr0
  go_wp2_with fail
  exact ⟨rfl, rfl, (hb0.trans hb1).alloc (Nat.le_of_lt hz) _, (hk0.trans HK1.out).alloc _⟩

end Go.Proofs.Ytokolgelmikfmaa
