/-
  note.Decode: the note that bytes are.
-/
import Derived.Test.YtokolgelmikfmaaNtCatch
namespace Go.Proofs.Ytokolgelmikfmaa
open Go.RowKit Pl
set_option linter.unusedVariables false

/-- No note. -/
def z0 : Nt := ⟨0, 0, 0, 0, 0, 0, 0, 0, 0, false, [], 0⟩
/-- The call answers a note, its bits in a row of its own, and an error. -/
def RetNote (k : IntKind) (x : Nt) (err : Int) (w : World) (e : Ending) (w' : World) : Prop :=
  ∃ A c, e = .returned (.tuple #[nv x A c, .int k err]) ∧ w'.ownsRow w.heap.size 5 1 (.slice A x.B.length c) x.B.length (u8s x.B) ∧ Below w.heap.size w w'
theorem own_kept {w w' : World} {base : Nat} {e : TypeId} {size : Nat} {A : Option Addr} {n c m : Nat} {xs : List Value} (h : w.ownsRow base e size (.slice A n c) m xs) (hb : Below w.heap.size w w') : w'.ownsRow base e size (.slice A n c) m xs :=
  h.kept (row := none) ⟨hb.os, hb.tape, hb.output, hb.size, fun j hj _ => hb.block j hj⟩ (by cases (Value.slice A n c).ownBlock <;> simp)
theorem Rdl.later {w w' : World} {gr : Nat} {A : Option Addr} {L : List Int} (h : Rd w A L) (hb : Below w.heap.size w w') (hg : w.heap.size ≤ gr) : Rdl w' gr A L := by
  rcases h with rfl | ⟨g, o, rfl, hg', hc⟩
  · exact .inl rfl
  · exact .inr ⟨g, o, rfl, by omega, fun i hi => (hb.cell (p := ⟨g, o + i, none⟩) hg').trans (hc i hi)⟩

set_option maxRecDepth 100000 in
set_option maxHeartbeats 4000000 in
theorem decode_short (A : Option Addr) (c : Nat) (Bs : List Int) (w : World) (hr : Rd w A Bs) (hc : Bs.length ≤ c)
    (hS : ∀ gr wx, Rr wx gr Bs 0 → Calls Try.prog 24 #[.pointer (some ⟨gr, 0, none⟩)] wx (Shorts gr wx)) :
    Calls Try.prog 13 #[.slice A Bs.length c] w (RetNote .u16 z0 110 w) := by
  have hmf : ∀ (fn : Fn) (first cap : Array Value) (w : World), (Instr.makeFunc fn first cap).run Try.prog w = .ok (.func fn first cap) w := fun _ _ _ _ => rfl
  have HS := Lib.hid hS
  obtain ⟨n, hn⟩ : ∃ n, Bs.length = n := ⟨_, rfl⟩
  have HN := Lib.hid hn
  rw [hn] at hc ⊢
  clear hS
  have hb0 : Below w.heap.size w (((w.alloc (.cells #[.int .u8 0, .int .u32 0, .int .u32 0, .int .i64 0, .int .u64 0, .int .u32 0, .int .u32 0, .int .u32 0, .int .u32 0, .bool false, .slice none 0 0, .int .i64 0] 32)).alloc (.cells #[.int .u16 0] 35)).alloc (.cells #[.slice A n c] 58)) := (((Below.refl _ _).alloc (Nat.le_refl _) _).alloc (by simp) _).alloc (by simp; omega) _
  have hrr : Rr (((w.alloc (.cells #[.int .u8 0, .int .u32 0, .int .u32 0, .int .i64 0, .int .u64 0, .int .u32 0, .int .u32 0, .int .u32 0, .int .u32 0, .bool false, .slice none 0 0, .int .i64 0] 32)).alloc (.cells #[.int .u16 0] 35)).alloc (.cells #[.slice A n c] 58)) (w.heap.size + 1 + 1) Bs 0 :=
    ⟨A, c, by rw [HN.out]; exact blk_at (by simp), by rw [HN.out]; exact hc, Rdl.later hr hb0 (by omega), Nat.zero_le _⟩
  have HRR := Lib.hid hrr
  have hbn : Blk (((w.alloc (.cells #[.int .u8 0, .int .u32 0, .int .u32 0, .int .i64 0, .int .u64 0, .int .u32 0, .int .u32 0, .int .u32 0, .int .u32 0, .bool false, .slice none 0 0, .int .i64 0] 32)).alloc (.cells #[.int .u16 0] 35)).alloc (.cells #[.slice A n c] 58)) w.heap.size 32 #[.int .u8 0, .int .u32 0, .int .u32 0, .int .i64 0, .int .u64 0, .int .u32 0, .int .u32 0, .int .u32 0, .int .u32 0, .bool false, .slice none 0 0, .int .i64 0] := ((Blk.new _ _ _).alloc _).alloc _
  have hbe : Blk (((w.alloc (.cells #[.int .u8 0, .int .u32 0, .int .u32 0, .int .i64 0, .int .u64 0, .int .u32 0, .int .u32 0, .int .u32 0, .int .u32 0, .bool false, .slice none 0 0, .int .i64 0] 32)).alloc (.cells #[.int .u16 0] 35)).alloc (.cells #[.slice A n c] 58)) (w.heap.size + 1) 35 #[.int .u16 0] := (blk_at (by simp)).alloc _
  have HBN := Lib.hid hbn
  have HBE := Lib.hid hbe
  have HB0 := Lib.hid hb0
  have hk0 : w.heap.size + 1 + 1 + 1 ≤ (((w.alloc (.cells #[.int .u8 0, .int .u32 0, .int .u32 0, .int .i64 0, .int .u64 0, .int .u32 0, .int .u32 0, .int .u32 0, .int .u32 0, .bool false, .slice none 0 0, .int .i64 0] 32)).alloc (.cells #[.int .u16 0] 35)).alloc (.cells #[.slice A n c] 58)).heap.size := by simp
  have HK0 := Lib.hid hk0
  clear hrr hbn hbe hb0 hr hc hk0
  go_enter_defers Try.func13, Try.ntmps13
  go_wp2_with fail
  refine (HS.out _ _ HRR.out).mono ?_
  rintro e w1 ⟨rfl, hb1, hk1⟩
  have hn1 := hk1 _ _ _ (by omega) HBN.out
  have he1 := hk1 _ _ _ (by omega) HBE.out
  have hbw := HB0.out.trans (hb1.mono (by omega))
  clear HS HRR HBN HBE HB0 hb1 hk1
  refine leaves_cons (f := 23) (args := #[.pointer (some ⟨w.heap.size, 0, none⟩), .pointer (some ⟨w.heap.size + 1, 0, none⟩)]) (by simp) (by simp [go_sem]) ?_
  refine (catch_short w.heap.size w.heap.size (w.heap.size + 1) _ _ _ _ _ _ _ _ _ _ _ _ _ _ hn1 he1 (Nat.le_refl _) (by omega)).mono ?_
  rintro e u' wz ⟨rfl, rfl, hc1, hc2, hc3⟩
  have z0 := cells12 hc1
  have e0 := hc2.cell 0
  simp [Leaves, settle, results, Try.results13, go_sem, z0, e0]
  exact ⟨none, 0, rfl, World.ownsRow_nil _ _ _ _, hbw.trans hc3⟩

set_option maxRecDepth 100000 in
set_option maxHeartbeats 4000000 in
theorem decode_long (A : Option Addr) (c : Nat) (Bs : List Int) (q : Nat) (hq : q < Bs.length) (hl : (Bs.length : Int) ≤ 1000000) (w : World) (hr : Rd w A Bs) (hc : Bs.length ≤ c)
    (hS : ∀ gr wx, Rr wx gr Bs 0 → Calls Try.prog 24 #[.pointer (some ⟨gr, 0, none⟩)] wx (RetRead gr Bs q wx)) :
    Calls Try.prog 13 #[.slice A Bs.length c] w (RetNote .u16 z0 110 w) := by
  have hmf : ∀ (fn : Fn) (first cap : Array Value) (w : World), (Instr.makeFunc fn first cap).run Try.prog w = .ok (.func fn first cap) w := fun _ _ _ _ => rfl
  have HS := Lib.hid hS
  obtain ⟨n, hn⟩ : ∃ n, Bs.length = n := ⟨_, rfl⟩
  have HN := Lib.hid hn
  rw [hn] at hc ⊢
  clear hS
  have hb0 : Below w.heap.size w (((w.alloc (.cells #[.int .u8 0, .int .u32 0, .int .u32 0, .int .i64 0, .int .u64 0, .int .u32 0, .int .u32 0, .int .u32 0, .int .u32 0, .bool false, .slice none 0 0, .int .i64 0] 32)).alloc (.cells #[.int .u16 0] 35)).alloc (.cells #[.slice A n c] 58)) := (((Below.refl _ _).alloc (Nat.le_refl _) _).alloc (by simp) _).alloc (by simp; omega) _
  have hrr : Rr (((w.alloc (.cells #[.int .u8 0, .int .u32 0, .int .u32 0, .int .i64 0, .int .u64 0, .int .u32 0, .int .u32 0, .int .u32 0, .int .u32 0, .bool false, .slice none 0 0, .int .i64 0] 32)).alloc (.cells #[.int .u16 0] 35)).alloc (.cells #[.slice A n c] 58)) (w.heap.size + 1 + 1) Bs 0 :=
    ⟨A, c, by rw [HN.out]; exact blk_at (by simp), by rw [HN.out]; exact hc, Rdl.later hr hb0 (by omega), Nat.zero_le _⟩
  have HRR := Lib.hid hrr
  have hbn : Blk (((w.alloc (.cells #[.int .u8 0, .int .u32 0, .int .u32 0, .int .i64 0, .int .u64 0, .int .u32 0, .int .u32 0, .int .u32 0, .int .u32 0, .bool false, .slice none 0 0, .int .i64 0] 32)).alloc (.cells #[.int .u16 0] 35)).alloc (.cells #[.slice A n c] 58)) w.heap.size 32 #[.int .u8 0, .int .u32 0, .int .u32 0, .int .i64 0, .int .u64 0, .int .u32 0, .int .u32 0, .int .u32 0, .int .u32 0, .bool false, .slice none 0 0, .int .i64 0] := ((Blk.new _ _ _).alloc _).alloc _
  have hbe : Blk (((w.alloc (.cells #[.int .u8 0, .int .u32 0, .int .u32 0, .int .i64 0, .int .u64 0, .int .u32 0, .int .u32 0, .int .u32 0, .int .u32 0, .bool false, .slice none 0 0, .int .i64 0] 32)).alloc (.cells #[.int .u16 0] 35)).alloc (.cells #[.slice A n c] 58)) (w.heap.size + 1) 35 #[.int .u16 0] := (blk_at (by simp)).alloc _
  have HBN := Lib.hid hbn
  have HBE := Lib.hid hbe
  have HB0 := Lib.hid hb0
  have hk0 : w.heap.size + 1 + 1 + 1 ≤ (((w.alloc (.cells #[.int .u8 0, .int .u32 0, .int .u32 0, .int .i64 0, .int .u64 0, .int .u32 0, .int .u32 0, .int .u32 0, .int .u32 0, .bool false, .slice none 0 0, .int .i64 0] 32)).alloc (.cells #[.int .u16 0] 35)).alloc (.cells #[.slice A n c] 58)).heap.size := by simp
  have HK0 := Lib.hid hk0
  clear hrr hbn hbe hb0 hr hc hk0
  go_enter_defers Try.func13, Try.ntmps13
  go_wp2_with fail
  refine (HS.out _ _ HRR.out).mono ?_
  rintro e w1 ⟨A2, c2, rfl, hown, hr1, hb1, hk1⟩
  have hn1 := hk1 _ _ _ (by omega) HBN.out
  have he1 := hk1 _ _ _ (by omega) HBE.out
  have hbw := HB0.out.trans (hb1.mono (by omega))
  obtain ⟨Ar, cr, hbr, _, _, _⟩ := hr1
  rw [HN.out] at hbr
  have hsz : w.heap.size + 1 + 1 < w1.heap.size := hbr.lt
  have HOW := Lib.hid (own_base hown (Nat.le_of_succ_le HK0.out))
  clear HS HRR HBN HBE HB0 hb1 hk1 hown
  obtain ⟨x, hx⟩ : ∃ x, parse Bs = x := ⟨_, rfl⟩
  rw [hx] at HOW ⊢
  have HX := Lib.hid hx
  unfold nv
  have x0 := cells12 hn1
  have xf := hn1.frozen
  have r0 := hbr.cell 0
  have e0 := he1.cell 0
  have ef := he1.frozen
  have HBN := Lib.hid hn1
  have HBE := Lib.hid he1
  have HBR := Lib.hid hbr
  clear hn1 he1 hbr hx
  obtain ⟨m, hm⟩ : ∃ m, n - q = m := ⟨_, rfl⟩
  rw [hm] at r0
  have hm0 : (0 : Int) < (m : Int) := by omega
  have hm1 : 0 < m := by omega
  have hd : decide (0 < m) = true := by simp; omega
  have HM := Lib.hid hm
  clear hm hn
  go_wp2_with fail
  have hn1 := blk_set12 HBN.out (.int .u8 x.k) (.int .u32 x.e) (.int .u32 x.s) (.int .i64 x.t) (.int .u64 x.v) (.int .u32 x.c) (.int .u32 x.b) (.int .u32 x.m) (.int .u32 x.n) (.bool x.z) (.slice A2 x.B.length c2) (.int .i64 x.N)
  have he1 := far_set12 (g := w.heap.size) HBE.out (by omega) (.int .u8 x.k) (.int .u32 x.e) (.int .u32 x.s) (.int .i64 x.t) (.int .u64 x.v) (.int .u32 x.c) (.int .u32 x.b) (.int .u32 x.m) (.int .u32 x.n) (.bool x.z) (.slice A2 x.B.length c2) (.int .i64 x.N)
  replace hbw := below_set12 (g := w.heap.size) hbw (Nat.le_refl _) (.int .u8 x.k) (.int .u32 x.e) (.int .u32 x.s) (.int .i64 x.t) (.int .u64 x.v) (.int .u32 x.c) (.int .u32 x.b) (.int .u32 x.m) (.int .u32 x.n) (.bool x.z) (.slice A2 x.B.length c2) (.int .i64 x.N)
  refine leaves_cons (f := 23) (args := #[.pointer (some ⟨w.heap.size, 0, none⟩), .pointer (some ⟨w.heap.size + 1, 0, none⟩)]) (by simp) (by simp [go_sem]) ?_
  refine (catch_short w.heap.size w.heap.size (w.heap.size + 1) _ _ _ _ _ _ _ _ _ _ _ _ _ _ hn1 he1 (Nat.le_refl _) (by omega)).mono ?_
  rintro e u' wz ⟨rfl, rfl, hc1, hc2, hc3⟩
  have z0 := cells12 hc1
  have e0 := hc2.cell 0
  simp [Leaves, settle, results, Try.results13, go_sem, z0, e0]
  exact ⟨none, 0, rfl, World.ownsRow_nil _ _ _ _, hbw.trans hc3⟩

set_option maxRecDepth 100000 in
set_option maxHeartbeats 4000000 in
theorem decode_bad (A : Option Addr) (c : Nat) (Bs : List Int) (hB : Byts Bs) (hmay : mayB (parse Bs) = false) (hl : (Bs.length : Int) ≤ 1000000) (w : World) (hr : Rd w A Bs) (hc : Bs.length ≤ c)
    (hS : ∀ gr wx, Rr wx gr Bs 0 → Calls Try.prog 24 #[.pointer (some ⟨gr, 0, none⟩)] wx (RetRead gr Bs Bs.length wx)) :
    Calls Try.prog 13 #[.slice A Bs.length c] w (RetNote .u16 z0 110 w) := by
  have HPO := Lib.hid (parse_ok hB)
  have HPL : Hid (((parse Bs).B.length : Int) ≤ 1000000) := Lib.hid (by
    have : (parse Bs).B.length ≤ Bs.length := by
      unfold parse
      split
      · simp
      · split
        · simp
        · split
          · simp
          · split
            · simp
            · simp
    omega)
  have hmf : ∀ (fn : Fn) (first cap : Array Value) (w : World), (Instr.makeFunc fn first cap).run Try.prog w = .ok (.func fn first cap) w := fun _ _ _ _ => rfl
  have HS := Lib.hid hS
  obtain ⟨n, hn⟩ : ∃ n, Bs.length = n := ⟨_, rfl⟩
  have HN := Lib.hid hn
  rw [hn] at hc ⊢
  clear hS
  have hb0 : Below w.heap.size w (((w.alloc (.cells #[.int .u8 0, .int .u32 0, .int .u32 0, .int .i64 0, .int .u64 0, .int .u32 0, .int .u32 0, .int .u32 0, .int .u32 0, .bool false, .slice none 0 0, .int .i64 0] 32)).alloc (.cells #[.int .u16 0] 35)).alloc (.cells #[.slice A n c] 58)) := (((Below.refl _ _).alloc (Nat.le_refl _) _).alloc (by simp) _).alloc (by simp; omega) _
  have hrr : Rr (((w.alloc (.cells #[.int .u8 0, .int .u32 0, .int .u32 0, .int .i64 0, .int .u64 0, .int .u32 0, .int .u32 0, .int .u32 0, .int .u32 0, .bool false, .slice none 0 0, .int .i64 0] 32)).alloc (.cells #[.int .u16 0] 35)).alloc (.cells #[.slice A n c] 58)) (w.heap.size + 1 + 1) Bs 0 :=
    ⟨A, c, by rw [HN.out]; exact blk_at (by simp), by rw [HN.out]; exact hc, Rdl.later hr hb0 (by omega), Nat.zero_le _⟩
  have HRR := Lib.hid hrr
  have hbn : Blk (((w.alloc (.cells #[.int .u8 0, .int .u32 0, .int .u32 0, .int .i64 0, .int .u64 0, .int .u32 0, .int .u32 0, .int .u32 0, .int .u32 0, .bool false, .slice none 0 0, .int .i64 0] 32)).alloc (.cells #[.int .u16 0] 35)).alloc (.cells #[.slice A n c] 58)) w.heap.size 32 #[.int .u8 0, .int .u32 0, .int .u32 0, .int .i64 0, .int .u64 0, .int .u32 0, .int .u32 0, .int .u32 0, .int .u32 0, .bool false, .slice none 0 0, .int .i64 0] := ((Blk.new _ _ _).alloc _).alloc _
  have hbe : Blk (((w.alloc (.cells #[.int .u8 0, .int .u32 0, .int .u32 0, .int .i64 0, .int .u64 0, .int .u32 0, .int .u32 0, .int .u32 0, .int .u32 0, .bool false, .slice none 0 0, .int .i64 0] 32)).alloc (.cells #[.int .u16 0] 35)).alloc (.cells #[.slice A n c] 58)) (w.heap.size + 1) 35 #[.int .u16 0] := (blk_at (by simp)).alloc _
  have HBN := Lib.hid hbn
  have HBE := Lib.hid hbe
  have HB0 := Lib.hid hb0
  have hk0 : w.heap.size + 1 + 1 + 1 ≤ (((w.alloc (.cells #[.int .u8 0, .int .u32 0, .int .u32 0, .int .i64 0, .int .u64 0, .int .u32 0, .int .u32 0, .int .u32 0, .int .u32 0, .bool false, .slice none 0 0, .int .i64 0] 32)).alloc (.cells #[.int .u16 0] 35)).alloc (.cells #[.slice A n c] 58)).heap.size := by simp
  have HK0 := Lib.hid hk0
  clear hrr hbn hbe hb0 hr hc hk0
  rw [HN.out] at HS
  go_enter_defers Try.func13, Try.ntmps13
  go_wp2_with fail
  refine (HS.out _ _ HRR.out).mono ?_
  rintro e w1 ⟨A2, c2, rfl, hown, hr1, hb1, hk1⟩
  have hn1 := hk1 _ _ _ (by omega) HBN.out
  have he1 := hk1 _ _ _ (by omega) HBE.out
  have hbw := HB0.out.trans (hb1.mono (by omega))
  obtain ⟨Ar, cr, hbr, _, _, _⟩ := hr1
  rw [HN.out] at hbr
  have hsz : w.heap.size + 1 + 1 < w1.heap.size := hbr.lt
  have HOW := Lib.hid (own_base hown (Nat.le_of_succ_le HK0.out))
  clear HS HRR HBN HBE HB0 hb1 hk1 hown
  obtain ⟨x, hx⟩ : ∃ x, parse Bs = x := ⟨_, rfl⟩
  rw [hx] at HOW ⊢
  have HX := Lib.hid hx
  unfold nv
  have x0 := cells12 hn1
  have xf := hn1.frozen
  have r0 := hbr.cell 0
  have e0 := he1.cell 0
  have ef := he1.frozen
  have HBN := Lib.hid hn1
  have HBE := Lib.hid he1
  have HBR := Lib.hid hbr
  rw [hx] at HPO HPL hmay
  have MAY := fun wx (h : Rd wx A2 x.B) => may_any x HPO.out HPL.out A2 c2 wx h
  rw [hmay] at MAY
  unfold nv at MAY
  have HMAY := Lib.hid MAY
  have HMB := Lib.hid hmay
  clear hn1 he1 hbr hx hn MAY hmay HPO HPL
  rw [Nat.sub_self] at r0
  go_wp2_with fail
  have hrd := Rd.of_own HOW.out
  have hrd2 : Rd ((((((((((((w1.setCell ⟨w.heap.size, 0, none⟩ (.int .u8 x.k)).setCell ⟨w.heap.size, 1, none⟩ (.int .u32 x.e)).setCell ⟨w.heap.size, 2, none⟩ (.int .u32 x.s)).setCell ⟨w.heap.size, 3, none⟩ (.int .i64 x.t)).setCell ⟨w.heap.size, 4, none⟩ (.int .u64 x.v)).setCell ⟨w.heap.size, 5, none⟩ (.int .u32 x.c)).setCell ⟨w.heap.size, 6, none⟩ (.int .u32 x.b)).setCell ⟨w.heap.size, 7, none⟩ (.int .u32 x.m)).setCell ⟨w.heap.size, 8, none⟩ (.int .u32 x.n)).setCell ⟨w.heap.size, 9, none⟩ (.bool x.z)).setCell ⟨w.heap.size, 10, none⟩ (.slice A2 x.B.length c2)).setCell ⟨w.heap.size, 11, none⟩ (.int .i64 x.N)) A2 x.B :=
    Rd.of_own (own_set12 (g := w.heap.size) HOW.out (fun e => by have := HOW.out.lt _ e; omega) _ _ _ _ _ _ _ _ _ _ _ _)
  have hown2 := own_set12 (g := w.heap.size) HOW.out (fun e => by have := HOW.out.lt _ e; omega) (.int .u8 x.k) (.int .u32 x.e) (.int .u32 x.s) (.int .i64 x.t) (.int .u64 x.v) (.int .u32 x.c) (.int .u32 x.b) (.int .u32 x.m) (.int .u32 x.n) (.bool x.z) (.slice A2 x.B.length c2) (.int .i64 x.N)
  have hn1 := blk_set12 HBN.out (.int .u8 x.k) (.int .u32 x.e) (.int .u32 x.s) (.int .i64 x.t) (.int .u64 x.v) (.int .u32 x.c) (.int .u32 x.b) (.int .u32 x.m) (.int .u32 x.n) (.bool x.z) (.slice A2 x.B.length c2) (.int .i64 x.N)
  have he1 := far_set12 (g := w.heap.size) HBE.out (by omega) (.int .u8 x.k) (.int .u32 x.e) (.int .u32 x.s) (.int .i64 x.t) (.int .u64 x.v) (.int .u32 x.c) (.int .u32 x.b) (.int .u32 x.m) (.int .u32 x.n) (.bool x.z) (.slice A2 x.B.length c2) (.int .i64 x.N)
  replace hbw := below_set12 (g := w.heap.size) hbw (Nat.le_refl _) (.int .u8 x.k) (.int .u32 x.e) (.int .u32 x.s) (.int .i64 x.t) (.int .u64 x.v) (.int .u32 x.c) (.int .u32 x.b) (.int .u32 x.m) (.int .u32 x.n) (.bool x.z) (.slice A2 x.B.length c2) (.int .i64 x.N)
  refine (HMAY.out _ hrd2).mono ?_
  rintro e w2 ⟨rfl, hb2⟩
  replace hown2 := own_kept hown2 hb2
  replace hn1 := hn1.below hb2 hn1.lt
  replace he1 := he1.below hb2 he1.lt
  replace hbw := hbw.trans (hb2.mono hbw.size)
  clear hb2 hrd hrd2 x0 xf r0 e0 ef HBN HBE HBR HOW HMAY
  go_wp2_with fail
  refine leaves_cons (f := 23) (args := #[.pointer (some ⟨w.heap.size, 0, none⟩), .pointer (some ⟨w.heap.size + 1, 0, none⟩)]) (by simp) (by simp [go_sem]) ?_
  refine (catch_short w.heap.size w.heap.size (w.heap.size + 1) _ _ _ _ _ _ _ _ _ _ _ _ _ _ hn1 he1 (Nat.le_refl _) (by omega)).mono ?_
  rintro e u' wz ⟨rfl, rfl, hc1, hc2, hc3⟩
  have z0 := cells12 hc1
  have e0 := hc2.cell 0
  simp [Leaves, settle, results, Try.results13, go_sem, z0, e0]
  exact ⟨none, 0, rfl, World.ownsRow_nil _ _ _ _, hbw.trans hc3⟩

set_option maxRecDepth 100000 in
set_option maxHeartbeats 4000000 in
theorem decode_good (A : Option Addr) (c : Nat) (Bs : List Int) (hB : Byts Bs) (hmay : mayB (parse Bs) = true) (hl : (Bs.length : Int) ≤ 1000000) (w : World) (hr : Rd w A Bs) (hc : Bs.length ≤ c)
    (hS : ∀ gr wx, Rr wx gr Bs 0 → Calls Try.prog 24 #[.pointer (some ⟨gr, 0, none⟩)] wx (RetRead gr Bs Bs.length wx)) :
    Calls Try.prog 13 #[.slice A Bs.length c] w (RetNote .u16 (parse Bs) 0 w) := by
  have HPO := Lib.hid (parse_ok hB)
  have HPL : Hid (((parse Bs).B.length : Int) ≤ 1000000) := Lib.hid (by
    have : (parse Bs).B.length ≤ Bs.length := by
      unfold parse
      split
      · simp
      · split
        · simp
        · split
          · simp
          · split
            · simp
            · simp
    omega)
  have hmf : ∀ (fn : Fn) (first cap : Array Value) (w : World), (Instr.makeFunc fn first cap).run Try.prog w = .ok (.func fn first cap) w := fun _ _ _ _ => rfl
  have HS := Lib.hid hS
  obtain ⟨n, hn⟩ : ∃ n, Bs.length = n := ⟨_, rfl⟩
  have HN := Lib.hid hn
  rw [hn] at hc ⊢
  clear hS
  have hb0 : Below w.heap.size w (((w.alloc (.cells #[.int .u8 0, .int .u32 0, .int .u32 0, .int .i64 0, .int .u64 0, .int .u32 0, .int .u32 0, .int .u32 0, .int .u32 0, .bool false, .slice none 0 0, .int .i64 0] 32)).alloc (.cells #[.int .u16 0] 35)).alloc (.cells #[.slice A n c] 58)) := (((Below.refl _ _).alloc (Nat.le_refl _) _).alloc (by simp) _).alloc (by simp; omega) _
  have hrr : Rr (((w.alloc (.cells #[.int .u8 0, .int .u32 0, .int .u32 0, .int .i64 0, .int .u64 0, .int .u32 0, .int .u32 0, .int .u32 0, .int .u32 0, .bool false, .slice none 0 0, .int .i64 0] 32)).alloc (.cells #[.int .u16 0] 35)).alloc (.cells #[.slice A n c] 58)) (w.heap.size + 1 + 1) Bs 0 :=
    ⟨A, c, by rw [HN.out]; exact blk_at (by simp), by rw [HN.out]; exact hc, Rdl.later hr hb0 (by omega), Nat.zero_le _⟩
  have HRR := Lib.hid hrr
  have hbn : Blk (((w.alloc (.cells #[.int .u8 0, .int .u32 0, .int .u32 0, .int .i64 0, .int .u64 0, .int .u32 0, .int .u32 0, .int .u32 0, .int .u32 0, .bool false, .slice none 0 0, .int .i64 0] 32)).alloc (.cells #[.int .u16 0] 35)).alloc (.cells #[.slice A n c] 58)) w.heap.size 32 #[.int .u8 0, .int .u32 0, .int .u32 0, .int .i64 0, .int .u64 0, .int .u32 0, .int .u32 0, .int .u32 0, .int .u32 0, .bool false, .slice none 0 0, .int .i64 0] := ((Blk.new _ _ _).alloc _).alloc _
  have hbe : Blk (((w.alloc (.cells #[.int .u8 0, .int .u32 0, .int .u32 0, .int .i64 0, .int .u64 0, .int .u32 0, .int .u32 0, .int .u32 0, .int .u32 0, .bool false, .slice none 0 0, .int .i64 0] 32)).alloc (.cells #[.int .u16 0] 35)).alloc (.cells #[.slice A n c] 58)) (w.heap.size + 1) 35 #[.int .u16 0] := (blk_at (by simp)).alloc _
  have HBN := Lib.hid hbn
  have HBE := Lib.hid hbe
  have HB0 := Lib.hid hb0
  have hk0 : w.heap.size + 1 + 1 + 1 ≤ (((w.alloc (.cells #[.int .u8 0, .int .u32 0, .int .u32 0, .int .i64 0, .int .u64 0, .int .u32 0, .int .u32 0, .int .u32 0, .int .u32 0, .bool false, .slice none 0 0, .int .i64 0] 32)).alloc (.cells #[.int .u16 0] 35)).alloc (.cells #[.slice A n c] 58)).heap.size := by simp
  have HK0 := Lib.hid hk0
  clear hrr hbn hbe hb0 hr hc hk0
  rw [HN.out] at HS
  go_enter_defers Try.func13, Try.ntmps13
  go_wp2_with fail
  refine (HS.out _ _ HRR.out).mono ?_
  rintro e w1 ⟨A2, c2, rfl, hown, hr1, hb1, hk1⟩
  have hn1 := hk1 _ _ _ (by omega) HBN.out
  have he1 := hk1 _ _ _ (by omega) HBE.out
  have hbw := HB0.out.trans (hb1.mono (by omega))
  obtain ⟨Ar, cr, hbr, _, _, _⟩ := hr1
  rw [HN.out] at hbr
  have hsz : w.heap.size + 1 + 1 < w1.heap.size := hbr.lt
  have HOW := Lib.hid (own_base hown (Nat.le_of_succ_le HK0.out))
  clear HS HRR HBN HBE HB0 hb1 hk1 hown
  obtain ⟨x, hx⟩ : ∃ x, parse Bs = x := ⟨_, rfl⟩
  rw [hx] at HOW ⊢
  have HX := Lib.hid hx
  unfold nv
  have x0 := cells12 hn1
  have xf := hn1.frozen
  have r0 := hbr.cell 0
  have e0 := he1.cell 0
  have ef := he1.frozen
  have HBN := Lib.hid hn1
  have HBE := Lib.hid he1
  have HBR := Lib.hid hbr
  rw [hx] at HPO HPL hmay
  have MAY := fun wx (h : Rd wx A2 x.B) => may_any x HPO.out HPL.out A2 c2 wx h
  rw [hmay] at MAY
  unfold nv at MAY
  have HMAY := Lib.hid MAY
  have HMB := Lib.hid hmay
  clear hn1 he1 hbr hx hn MAY hmay HPO HPL
  rw [Nat.sub_self] at r0
  go_wp2_with fail
  have hrd := Rd.of_own HOW.out
  have hrd2 : Rd ((((((((((((w1.setCell ⟨w.heap.size, 0, none⟩ (.int .u8 x.k)).setCell ⟨w.heap.size, 1, none⟩ (.int .u32 x.e)).setCell ⟨w.heap.size, 2, none⟩ (.int .u32 x.s)).setCell ⟨w.heap.size, 3, none⟩ (.int .i64 x.t)).setCell ⟨w.heap.size, 4, none⟩ (.int .u64 x.v)).setCell ⟨w.heap.size, 5, none⟩ (.int .u32 x.c)).setCell ⟨w.heap.size, 6, none⟩ (.int .u32 x.b)).setCell ⟨w.heap.size, 7, none⟩ (.int .u32 x.m)).setCell ⟨w.heap.size, 8, none⟩ (.int .u32 x.n)).setCell ⟨w.heap.size, 9, none⟩ (.bool x.z)).setCell ⟨w.heap.size, 10, none⟩ (.slice A2 x.B.length c2)).setCell ⟨w.heap.size, 11, none⟩ (.int .i64 x.N)) A2 x.B :=
    Rd.of_own (own_set12 (g := w.heap.size) HOW.out (fun e => by have := HOW.out.lt _ e; omega) _ _ _ _ _ _ _ _ _ _ _ _)
  have hown2 := own_set12 (g := w.heap.size) HOW.out (fun e => by have := HOW.out.lt _ e; omega) (.int .u8 x.k) (.int .u32 x.e) (.int .u32 x.s) (.int .i64 x.t) (.int .u64 x.v) (.int .u32 x.c) (.int .u32 x.b) (.int .u32 x.m) (.int .u32 x.n) (.bool x.z) (.slice A2 x.B.length c2) (.int .i64 x.N)
  have hn1 := blk_set12 HBN.out (.int .u8 x.k) (.int .u32 x.e) (.int .u32 x.s) (.int .i64 x.t) (.int .u64 x.v) (.int .u32 x.c) (.int .u32 x.b) (.int .u32 x.m) (.int .u32 x.n) (.bool x.z) (.slice A2 x.B.length c2) (.int .i64 x.N)
  have he1 := far_set12 (g := w.heap.size) HBE.out (by omega) (.int .u8 x.k) (.int .u32 x.e) (.int .u32 x.s) (.int .i64 x.t) (.int .u64 x.v) (.int .u32 x.c) (.int .u32 x.b) (.int .u32 x.m) (.int .u32 x.n) (.bool x.z) (.slice A2 x.B.length c2) (.int .i64 x.N)
  replace hbw := below_set12 (g := w.heap.size) hbw (Nat.le_refl _) (.int .u8 x.k) (.int .u32 x.e) (.int .u32 x.s) (.int .i64 x.t) (.int .u64 x.v) (.int .u32 x.c) (.int .u32 x.b) (.int .u32 x.m) (.int .u32 x.n) (.bool x.z) (.slice A2 x.B.length c2) (.int .i64 x.N)
  refine (HMAY.out _ hrd2).mono ?_
  rintro e w2 ⟨rfl, hb2⟩
  replace hown2 := own_kept hown2 hb2
  replace hn1 := hn1.below hb2 hn1.lt
  replace he1 := he1.below hb2 he1.lt
  replace hbw := hbw.trans (hb2.mono hbw.size)
  clear hb2 hrd hrd2 x0 xf r0 e0 ef HBN HBE HBR HOW HMAY
  have x0 := cells12 hn1
  have xf := hn1.frozen
  have e0 := he1.cell 0
  have ef := he1.frozen
  have HOW := Lib.hid hown2
  have HBW := Lib.hid hbw
  have HBN := Lib.hid hn1
  have HBE := Lib.hid he1
  clear hown2 hn1 he1 hbw
  go_wp2_with fail
  refine leaves_cons (f := 23) (args := #[.pointer (some ⟨w.heap.size, 0, none⟩), .pointer (some ⟨w.heap.size + 1, 0, none⟩)]) (by simp) (by simp [go_sem]) ?_
  refine (catch_idle _ _ _).mono ?_
  rintro e u' wz ⟨rfl, rfl, rfl⟩
  simp [Leaves, settle, results, Try.results13, go_sem, x0, e0]
  rw [HX.out]
  refine ⟨A2, c2, rfl, ?_, ?_⟩
  · exact own_base (own_far (own_set12 (g := w.heap.size) HOW.out (fun e => by have := HOW.out.lt _ e; omega) _ _ _ _ _ _ _ _ _ _ _ _) (fun e => by have := HOW.out.lt _ e; simp at this <;> omega) _) (by omega)
  · exact (below_set12 (g := w.heap.size) HBW.out (Nat.le_refl _) _ _ _ _ _ _ _ _ _ _ _ _).setCell (p := ⟨w.heap.size + 1, 0, none⟩) (by simp) _

/-- Decode answers what the bytes are read as, where they are written so; else no note and the error. -/
theorem decode_any (A : Option Addr) (c : Nat) (Bs : List Int) (hB : Byts Bs) (hl : (Bs.length : Int) ≤ 1000000) (w : World) (hr : Rd w A Bs) (hc : Bs.length ≤ c) :
    Calls Try.prog 13 #[.slice A Bs.length c] w (RetNote .u16 (if goodB Bs then parse Bs else z0) (if goodB Bs then 0 else 110) w) := by
  have short : goodB Bs = false → (∀ gr wx, Rr wx gr Bs 0 → Calls Try.prog 24 #[.pointer (some ⟨gr, 0, none⟩)] wx (Shorts gr wx)) → Calls Try.prog 13 #[.slice A Bs.length c] w (RetNote .u16 (if goodB Bs then parse Bs else z0) (if goodB Bs then 0 else 110) w) := by
    intro hg hS
    rw [hg]
    exact decode_short A c Bs w hr hc hS
  have long : ∀ q, goodB Bs = false → q < Bs.length → (∀ gr wx, Rr wx gr Bs 0 → Calls Try.prog 24 #[.pointer (some ⟨gr, 0, none⟩)] wx (RetRead gr Bs q wx)) → Calls Try.prog 13 #[.slice A Bs.length c] w (RetNote .u16 (if goodB Bs then parse Bs else z0) (if goodB Bs then 0 else 110) w) := by
    intro q hg hq hS
    rw [hg]
    exact decode_long A c Bs q hq hl w hr hc hS
  have bad : goodB Bs = false → mayB (parse Bs) = false → (∀ gr wx, Rr wx gr Bs 0 → Calls Try.prog 24 #[.pointer (some ⟨gr, 0, none⟩)] wx (RetRead gr Bs Bs.length wx)) → Calls Try.prog 13 #[.slice A Bs.length c] w (RetNote .u16 (if goodB Bs then parse Bs else z0) (if goodB Bs then 0 else 110) w) := by
    intro hg hm hS
    rw [hg]
    exact decode_bad A c Bs hB hm hl w hr hc hS
  have good : goodB Bs = true → (∀ gr wx, Rr wx gr Bs 0 → Calls Try.prog 24 #[.pointer (some ⟨gr, 0, none⟩)] wx (RetRead gr Bs Bs.length wx)) → Calls Try.prog 13 #[.slice A Bs.length c] w (RetNote .u16 (if goodB Bs then parse Bs else z0) (if goodB Bs then 0 else 110) w) := by
    intro hg hS
    rw [hg]
    exact decode_good A c Bs hB (good_parts hg).1 hl w hr hc hS
  by_cases h0 : Bs.length = 0
  · obtain rfl := List.eq_nil_of_length_eq_zero h0
    exact short bad_nil (fun gr wx h => short_nil gr wx h)
  by_cases h1 : Bs.getD 0 0 = 1
  · rcases Nat.lt_trichotomy Bs.length 5 with h | h | h
    · exact short (bad_len (by rw [h1, if_pos rfl]; omega)) (fun gr wx hh => short_one gr Bs wx hh hB hl h1 (by omega) h)
    · exact good (enc_parse1 hB h1 h) (fun gr wx hh => by rw [h]; exact read_one gr Bs wx hh hB hl h1 (by omega))
    · exact long 5 (bad_len (by rw [h1, if_pos rfl]; omega)) h (fun gr wx hh => read_one gr Bs wx hh hB hl h1 (by omega))
  by_cases h2 : Bs.getD 0 0 = 2
  · rcases Nat.lt_trichotomy Bs.length 21 with h | h | h
    · exact short (bad_len (by rw [h2, if_neg (by decide), if_pos rfl]; omega)) (fun gr wx hh => short_two gr Bs wx hh hB hl h2 (by omega) h)
    · exact good (enc_parse2 hB h2 h) (fun gr wx hh => by rw [h]; exact read_two gr Bs wx hh hB hl h2 (by omega))
    · exact long 21 (bad_len (by rw [h2, if_neg (by decide), if_pos rfl]; omega)) h (fun gr wx hh => read_two gr Bs wx hh hB hl h2 (by omega))
  by_cases h3 : Bs.getD 0 0 = 3
  · rcases Nat.lt_trichotomy Bs.length 17 with h | h | h
    · exact short (bad_len (by rw [h3, if_neg (by decide), if_neg (by decide), if_pos rfl]; omega)) (fun gr wx hh => short_three gr Bs wx hh hB hl h3 (by omega) h)
    · exact good (enc_parse3 hB h3 h) (fun gr wx hh => by rw [h]; exact read_three gr Bs wx hh hB hl h3 (by omega))
    · exact long 17 (bad_len (by rw [h3, if_neg (by decide), if_neg (by decide), if_pos rfl]; omega)) h (fun gr wx hh => read_three gr Bs wx hh hB hl h3 (by omega))
  by_cases h4 : Bs.getD 0 0 = 4
  · by_cases h24 : Bs.length < 24
    · exact short (bad_short4 h4 h24) (fun gr wx hh => short_four gr Bs wx hh hB hl h4 (by omega) (.inl h24))
    · by_cases hf : 1 < num Bs 21 1
      · exact short (bad_flag hB h4 hf) (fun gr wx hh => short_four gr Bs wx hh hB hl h4 (by omega) (.inr hf))
      · have hg := enc_parse4 hB h4 (by omega) (by omega)
        have hS : ∀ gr wx, Rr wx gr Bs 0 → Calls Try.prog 24 #[.pointer (some ⟨gr, 0, none⟩)] wx (RetRead gr Bs Bs.length wx) := fun gr wx hh => by
          have := read_four gr Bs wx hh hB hl h4 (by omega) (by omega)
          rwa [show 24 + (Bs.length - 24) = Bs.length from by omega] at this
        cases hm : mayB (parse Bs)
        · exact bad (by rw [hg, hm]) hm hS
        · exact good (by rw [hg, hm]) hS
  · exact short (bad_kind h1 h2 h3 h4) (fun gr wx hh => short_other gr Bs wx hh hB hl (by omega) h1 h2 h3 h4)

end Go.Proofs.Ytokolgelmikfmaa
