/-
  (*bit.writer).lay: up to eight bits are laid behind others.
-/
import Derived.Test.YteemncpmcfflmaaProg
import Derived.Test.YteemncpmcfflmaaBase
import Derived.Test.YteemncpmcfflmaaPl2
import Derived.Deep.RegionHeld3
import Derived.Deep.RegionLaw
import Derived.BigRegion
import Derived.Laws.Pointers
namespace Go.Proofs.Yteemncpmcfflmaa
open Go.RowKit Pl
set_option linter.unusedVariables false

theorem info_u8 : (Try.prog.info? 5).map (fun i => (i.zero, i.size, i.bytes)) = some (some (.int .u8 0), 1, 1) := by kernel_rfl

/-- A writer in block gw holds the bits L in a row of its own; all of it lies from block 'base' on. -/
def Wr (w : World) (base gw : Nat) (L : List Bool) : Prop :=
  ∃ A n c B, Blk w gw 74 #[.slice A n c, .int .i64 (L.length : Int)] ∧ base ≤ gw ∧ w.ownsRow base 5 1 (.slice A n c) n (u8s B) ∧ Packs B L

theorem own_len {w : World} {base n : Nat} {e : TypeId} {v : Value} {B : List Int} (h : w.ownsRow base e 1 v n (u8s B)) : B.length = n := by
  have := h.1; rw [u8s_length] at this; omega

theorem Wr.blk_ne {w : World} {base gw n : Nat} {v : Value} {B : List Int} {cs : Array Value} (h : w.ownsRow base 5 1 v n (u8s B)) (hb : Blk w gw 74 cs) : v.ownBlock ≠ some gw := own_blk_ne h hb (by decide)

/-- Whatever block holds neither bytes nor a writer is as it was. -/
def Keeps (w w' : World) : Prop := ∀ k t cs, t ≠ 5 → t ≠ 74 → Blk w k t cs → Blk w' k t cs
theorem Keeps.refl (w : World) : Keeps w w := fun _ _ _ _ _ h => h
theorem Keeps.trans {a b c : World} (h : Keeps a b) (k : Keeps b c) : Keeps a c := fun x t cs h1 h2 hb => k x t cs h1 h2 (h x t cs h1 h2 hb)
theorem Keeps.drew {a b : World} (h : Keeps a b) : Keeps a b.drew := h
theorem Keeps.alloc {a b : World} (h : Keeps a b) (o : Obj) : Keeps a (b.alloc o) := fun x t cs h1 h2 hb => (h x t cs h1 h2 hb).alloc o
theorem Keeps.set_writer {a b : World} (h : Keeps a b) {gw : Nat} {cs : Array Value} (hb : Blk b gw 74 cs) (i : Nat) (u : Value) : Keeps a (b.setCell ⟨gw, i, none⟩ u) :=
  fun x t cs' h1 h2 hx => (h x t cs' h1 h2 hx).far (p := ⟨gw, i, none⟩) ((h x t cs' h1 h2 hx).ne_ hb h2) u
theorem Keeps.set_row {a b : World} (h : Keeps a b) {base n : Nat} {v : Value} {xs : List Value} {g : Nat} (ho : b.ownsRow base 5 1 v n xs) (hg : v.ownBlock = some g) (i : Nat) (u : Value) : Keeps a (b.setCell ⟨g, i, none⟩ u) :=
  fun x t cs' h1 h2 hx => (h x t cs' h1 h2 hx).far (p := ⟨g, i, none⟩) (fun e => own_blk_ne ho (h x t cs' h1 h2 hx) (Ne.symm h1) (by rw [hg, e])) u
theorem Keeps.grown {a b c : World} (h : Keeps a b) {base n : Nat} {v : Value} {xs : List Value} (ho : b.ownsRow base 5 1 v n xs) (hg : b.grownBy c v.ownBlock) : Keeps a c :=
  fun x t cs' h1 h2 hx => (h x t cs' h1 h2 hx).grown hg (fun e => own_blk_ne ho (h x t cs' h1 h2 hx) (Ne.symm h1) e.symm)
theorem Keeps.below {a b c : World} (h : Keeps a b) (hb : Below b.heap.size b c) : Keeps a c :=
  fun x t cs h1 h2 hx => (h x t cs h1 h2 hx).below hb (h x t cs h1 h2 hx).lt

/-- The length is written anew. -/
theorem Wr.length_set {w : World} {base gw n : Nat} {A : Option Addr} {c : Nat} {B : List Int} {L : List Bool} {N N' : Int} (hb : Blk w gw 74 #[.slice A n c, .int .i64 N]) (hbase : base ≤ gw)
    (ho : w.ownsRow base 5 1 (.slice A n c) n (u8s B)) (hp : Packs B L) (hN : N' = (L.length : Int)) : Wr (w.setCell ⟨gw, 1, none⟩ (.int .i64 N')) base gw L := by
  subst hN
  exact ⟨A, n, c, B, hb.set_ 1 _, hbase, own_far ho (Wr.blk_ne ho hb) _, hp⟩

/-- Slice and length are written anew. -/
theorem Wr.both_set {w : World} {base gw g n cap : Nat} {B : List Int} {xs : List Value} {L : List Bool} {N' : Int} {v0 v1 : Value} (hb : Blk w gw 74 #[v0, v1]) (hbase : base ≤ gw)
    (ho : w.ownsRow base 5 1 (.slice (some ⟨g, 0, none⟩) n cap) n xs) (hx : xs = u8s B) (hp : Packs B L) (hN : N' = (L.length : Int)) :
    Wr ((w.setCell ⟨gw, 0, none⟩ (.slice (some ⟨g, 0, none⟩) n cap)).setCell ⟨gw, 1, none⟩ (.int .i64 N')) base gw L := by
  subst hx; subst hN
  have hne := Wr.blk_ne ho hb
  exact ⟨_, _, _, B, (hb.set_ 0 _).set_ 1 _, hbase, own_far (own_far ho hne _) hne _, hp⟩

set_option maxHeartbeats 1000000 in
theorem lay_nothing (base gw : Nat) (L : List Bool) (b : Int) (w : World) (hwr : Wr w base gw L) (hL : (L.length : Int) ≤ 1000000000) (hk : L.length % 8 = 0) (hb : 0 ≤ b ∧ b < 256) :
    Calls Try.prog 39 #[.pointer (some ⟨gw, 0, none⟩), .int .u8 b, .int .i64 0] w fun e w' => e = .returned (.tuple #[]) ∧ Wr w' base gw L ∧ Below base w w' ∧ Keeps w w' := by
  obtain ⟨A, n, c, B, hblk, hbase, hown, hp⟩ := hwr
  have hw : w.cell? ⟨gw, 0, none⟩ = some (.slice A n c) := hblk.cell 0
  have hN : w.cell? ⟨gw, 1, none⟩ = some (.int .i64 (L.length : Int)) := hblk.cell 1
  have hf : ∀ i, w.frozen? ⟨gw, i, none⟩ = false := hblk.frozen
  have hz : (((L.length : Int) % 8) == 0) = true := by rw [beq_iff_eq]; omega
  have HB := Lib.hid hblk
  have HO := Lib.hid hown
  clear hblk hown
  go_enter Try.func39, Try.ntmps39
  go_wp2
  go_end0
  exact ⟨rfl, Wr.length_set HB.out hbase HO.out hp rfl, (Below.refl _ _).setCell hbase _, (Keeps.refl _).set_writer HB.out 1 _⟩

set_option maxHeartbeats 1000000 in
theorem lay_fresh (base gw : Nat) (L : List Bool) (b m : Int) (w : World) (hwr : Wr w base gw L) (hL : (L.length : Int) ≤ 1000000000) (hk : L.length % 8 = 0) (hb : 0 ≤ b ∧ b < 256) (hm : 0 < m) (hm8 : m ≤ 8) (hbs : base ≤ w.heap.size) :
    Calls Try.prog 39 #[.pointer (some ⟨gw, 0, none⟩), .int .u8 b, .int .i64 m] w fun e w' => e = .returned (.tuple #[]) ∧ Wr w' base gw (L ++ topb b m.toNat) ∧ Below base w w' ∧ Keeps w w' := by
  obtain ⟨A, n, c, B, hblk, hbase, hown, hp⟩ := hwr
  obtain ⟨i0, hi, hz0, hz1, hz2⟩ := info_parts info_u8
  have hlen := hp.len
  have hnl := own_len hown
  have hw : w.cell? ⟨gw, 0, none⟩ = some (.slice A n c) := hblk.cell 0
  have hN : w.cell? ⟨gw, 1, none⟩ = some (.int .i64 (L.length : Int)) := hblk.cell 1
  have hf : ∀ i, w.frozen? ⟨gw, i, none⟩ = false := hblk.frozen
  have hz : (((L.length : Int) % 8) == 0) = true := by rw [beq_iff_eq]; omega
  have hfar := own_blk_ne hown hblk (by decide)
  have HB := Lib.hid hblk
  have HL := Lib.hid hlen
  have HN := Lib.hid hnl
  have hmx : n + 1 ≤ maxLen := by unfold maxLen; omega
  have hby : (n + 1) * 1 ≤ 140737488355328 := by omega
  have hlt := hblk.lt
  clear hblk hlen hnl
  go_enter Try.func39, Try.ntmps39
  go_wp2_with (at_builtin; refine wpList_append_lies _ rfl _ _ 25 rfl base 5 i0 (.int .u8 0) 1 1 Try.underlying25 hi hz0 hz1 hz2 rfl (by decide) (.slice A n c) n (u8s B) rfl (hown.alloc _) ⟨w.heap.size, 0, none⟩ 1 1 [_] rfl rfl (World.news_of_block (heap_alloc_new w _)) (by simp [Value.oneCell']) (by decide) hmx hby (by simp; omega) (w.heap.size + 1) (by simp) ?_; intro g cap w1 hown1 hgrow hat hlt1; have HB1 := Lib.hid ((HB.out.alloc _).grown hgrow (Ne.symm hfar)); have hc1 := HB1.out.cell 0; have hc2 := HB1.out.cell 1; have hf1 := HB1.out.frozen)
  go_end0
  refine ⟨rfl, Wr.both_set HB1.out hbase hown1 (B := B ++ [_]) (by rw [u8s_append]; rfl) (lay_new hp hk (by rw [topb_length]; omega) (by rw [topb_length]; omega) (top_mask b m hb ⟨by omega, hm8⟩)) (by rw [List.length_append, topb_length]; omega), ((((Below.refl _ _).alloc hbs _).grown hgrow (by simp; omega) (fun k hk => (hown.lt k hk).1)).setCell hbase _).setCell hbase _, ?_⟩
  exact (((((Keeps.refl _).alloc _).grown (hown.alloc _) hgrow).set_writer HB1.out 0 _).set_writer (HB1.out.set_ 0 _) 1 _)

/-- What the walk inside a byte is told. -/
theorem lay_row {w : World} {base n c : Nat} {A : Option Addr} {B : List Int} {L : List Bool} (hown : w.ownsRow base 5 1 (.slice A n c) n (u8s B)) (hp : Packs B L) (hk : L.length % 8 ≠ 0) :
    ∃ g q, A = some ⟨g, 0, none⟩ ∧ n = q + 1 ∧ B.length = q + 1 ∧ w.cell? ⟨g, q, none⟩ = some (.int .u8 (nth B q)) ∧ base ≤ g ∧ (∀ i, w.frozen? ⟨g, i, none⟩ = false) := by
  have hlen := hp.len
  have hnl := own_len hown
  have hn : 0 < n := by omega
  obtain ⟨g, cap, hv, hb, hlt⟩ := hown.form hn
  have hA : A = some ⟨g, 0, none⟩ := by injection hv
  subst hA
  refine ⟨g, n - 1, rfl, by omega, by omega, ?_, hb, fun i => hown.frozenAt i⟩
  rw [hown.cellAt (n - 1) (by omega)]
  exact u8s_get (by omega)

set_option maxHeartbeats 1000000 in
theorem lay_inside (base gw : Nat) (L : List Bool) (b m : Int) (w : World) (hwr : Wr w base gw L) (hL : (L.length : Int) ≤ 1000000000) (hk : L.length % 8 ≠ 0) (hb : 0 ≤ b ∧ b < 256) (hm : 0 ≤ m) (hm8 : m ≤ 8) (hfit0 : m ≤ 8 - (L.length : Int) % 8) :
    Calls Try.prog 39 #[.pointer (some ⟨gw, 0, none⟩), .int .u8 b, .int .i64 m] w fun e w' => e = .returned (.tuple #[]) ∧ Wr w' base gw (L ++ topb b m.toNat) ∧ Below base w w' ∧ Keeps w w' := by
  obtain ⟨A, n, c, B, hblk, hbase, hown, hp⟩ := hwr
  obtain ⟨N, hNL⟩ : ∃ N : Int, N = (L.length : Int) := ⟨_, rfl⟩
  obtain ⟨g, q, rfl, rfl, hlq, hcell, hbg, hgf⟩ := lay_row hown hp hk
  rw [← hNL] at hblk
  have hne : ¬ gw = g := fun e => own_blk_ne hown hblk (by decide) (by simp [Value.ownBlock, e])
  have hne' : ¬ g = gw := fun e => hne e.symm
  have hw : w.cell? ⟨gw, 0, none⟩ = some (.slice (some ⟨g, 0, none⟩) (q + 1) c) := hblk.cell 0
  have hN : w.cell? ⟨gw, 1, none⟩ = some (.int .i64 N) := hblk.cell 1
  have hf : ∀ i, w.frozen? ⟨gw, i, none⟩ = false := hblk.frozen
  have hz : (N % 8 == 0) = false := by rw [beq_eq_false_iff_ne]; omega
  have hN0 : 0 ≤ N := by omega
  have hN1 : N ≤ 1000000000 := by omega
  have hq : (q : Int) ≤ 1000000000 := by have := hp.len; omega
  have hfit : m ≤ 8 - N % 8 := by omega
  have HB := Lib.hid hblk
  have HO := Lib.hid hown
  have HL := Lib.hid hlq
  have HN := Lib.hid hNL
  clear hblk hown hlq hNL hfit0
  go_enter Try.func39, Try.ntmps39
  go_wp2
  go_region
  go_wp2
  go_end0
  have h1 := (HO.out.stored q (.int .u8 (bits .or .u8 (nth B q) (bits .and .u8 b (255 * 2 ^ (8 - m).toNat % 256) / 2 ^ (N % 8).toNat)))).1
  rw [← u8s_set] at h1
  refine ⟨rfl, ?_, ((((Below.refl _ _).setCell (p := ⟨g, q, none⟩) hbg _)).setCell hbase _).drew, (((Keeps.refl _).set_row HO.out rfl q _).set_writer (HB.out.far (p := ⟨g, q, none⟩) hne _) 1 _).drew⟩
  have := HN.out
  exact Wr.length_set (L := L ++ topb b m.toNat) (HB.out.far (p := ⟨g, q, none⟩) hne _) hbase h1
    (in_last hp HL.out rfl HN.out hk (by rw [topb_length]; omega) (top_mask b m hb ⟨hm, hm8⟩)) (by rw [List.length_append, topb_length]; omega)

set_option maxHeartbeats 1000000 in
theorem lay_across (base gw : Nat) (L : List Bool) (b m : Int) (w : World) (hwr : Wr w base gw L) (hL : (L.length : Int) ≤ 1000000000) (hk : L.length % 8 ≠ 0) (hb : 0 ≤ b ∧ b < 256) (hm : 0 ≤ m) (hm8 : m ≤ 8) (hover0 : 8 - (L.length : Int) % 8 < m) (hbs : base ≤ w.heap.size) :
    Calls Try.prog 39 #[.pointer (some ⟨gw, 0, none⟩), .int .u8 b, .int .i64 m] w fun e w' => e = .returned (.tuple #[]) ∧ Wr w' base gw (L ++ topb b m.toNat) ∧ Below base w w' ∧ Keeps w w' := by
  obtain ⟨A, n, c, B, hblk, hbase, hown, hp⟩ := hwr
  obtain ⟨N, hNL⟩ : ∃ N : Int, N = (L.length : Int) := ⟨_, rfl⟩
  obtain ⟨i0, hi, hz0, hz1, hz2⟩ := info_parts info_u8
  obtain ⟨g, q, rfl, rfl, hlq, hcell, hbg, hgf⟩ := lay_row hown hp hk
  rw [← hNL] at hblk
  have hne : ¬ gw = g := fun e => own_blk_ne hown hblk (by decide) (by simp [Value.ownBlock, e])
  have hne' : ¬ g = gw := fun e => hne e.symm
  have hw : w.cell? ⟨gw, 0, none⟩ = some (.slice (some ⟨g, 0, none⟩) (q + 1) c) := hblk.cell 0
  have hN : w.cell? ⟨gw, 1, none⟩ = some (.int .i64 N) := hblk.cell 1
  have hf : ∀ i, w.frozen? ⟨gw, i, none⟩ = false := hblk.frozen
  have hz : (N % 8 == 0) = false := by rw [beq_eq_false_iff_ne]; omega
  have hN0 : 0 ≤ N := by omega
  have hN1 : N ≤ 1000000000 := by omega
  have hover : 8 - N % 8 < m := by omega
  have hq : (q : Int) ≤ 1000000000 := by have := hp.len; omega
  have hmx : q + 1 + 1 ≤ maxLen := by unfold maxLen; omega
  have hby : (q + 1 + 1) * 1 ≤ 140737488355328 := by omega
  have hlt := hblk.lt
  have ht := top_mask b m hb ⟨hm, hm8⟩
  obtain ⟨x, hx⟩ : ∃ x, bits BinOp.and IntKind.u8 b (255 * 2 ^ (8 - m).toNat % 256) = x := ⟨_, rfl⟩
  rw [hx] at ht
  have hpk := over_last hp hlq (c := nth B q) rfl hNL hk (by rw [topb_length]; omega) (by rw [topb_length]; omega) ht
  obtain ⟨y, hy⟩ : ∃ y, bits BinOp.or IntKind.u8 (nth B q) (x / 2 ^ (N % 8).toNat) = y := ⟨_, rfl⟩
  rw [hy] at hpk
  have h1 := (hown.stored q (.int .u8 y)).1
  rw [← u8s_set] at h1
  have HOW := Lib.hid hown
  have HST := Lib.hid ((Below.refl base w).setCell (p := ⟨g, q, none⟩) hbg (.int .u8 y))
  have HB := Lib.hid (hblk.far (p := ⟨g, q, none⟩) hne (.int .u8 y))
  have HL := Lib.hid hlq
  have HP := Lib.hid hpk
  have HN := Lib.hid hNL
  have hx0 := ht.1.1
  have hx1 := ht.1.2
  have hwr8 : IntKind.i64.wrap (8 - N % 8) = 8 - N % 8 := IntWalk.i64_in _ (by omega)
  have hwr80 : 0 ≤ 8 - N % 8 := by omega
  have hO1 : base ≤ ((w.setCell ⟨g, q, none⟩ (.int .u8 y)).alloc (.cells #[.int .u8 (IntKind.u8.wrap (x * 2 ^ (8 - N % 8).toNat))] 5)).drew.drew.heap.size := by simp; omega
  have hO2 : ((w.setCell ⟨g, q, none⟩ (.int .u8 y)).alloc (.cells #[.int .u8 (IntKind.u8.wrap (x * 2 ^ (8 - N % 8).toNat))] 5)).drew.drew.heap.size = w.heap.size + 1 := by simp
  have hO3 := World.news_of_block (heap_new_at (w.setCell ⟨g, q, none⟩ (.int .u8 y)) (.cells #[.int .u8 (IntKind.u8.wrap (x * 2 ^ (8 - N % 8).toNat))] 5) w.heap.size (by simp))
  have hO4 := h1.alloc (.cells #[.int .u8 (IntKind.u8.wrap (x * 2 ^ (8 - N % 8).toNat))] 5)
  have hO5 : ∀ u ∈ [Value.int .u8 (IntKind.u8.wrap (x * 2 ^ (8 - N % 8).toNat))], u.oneCell' = true := by simp [Value.oneCell']
  have HO1 := Lib.hid hO1
  have HO2 := Lib.hid hO2
  have HO3 := Lib.hid hO3
  have HO4 := Lib.hid hO4
  have HO5 := Lib.hid hO5
  clear hO1 hO2 hO3 hO4 hO5
  have hq2 : ¬ (.slice (some ⟨g, 0, none⟩) (q + 1) c : Value).ownBlock = some gw := by simpa [Value.ownBlock] using hne'
  clear hblk hown hlq hp hNL hover0 hpk ht
  go_enter Try.func39, Try.ntmps39
  go_wp2
  go_region
  go_wp2
  go_region_law
    ((refine step_append_lies _ (by rfl) _ _ _ (by rfl) base 5 i0 (.int .u8 0) 1 1 Try.underlying25 hi hz0 hz1 hz2 rfl (by omega) (.slice (some ⟨g, 0, none⟩) (q + 1) c) (q + 1) (u8s (B.set q y)) (by rfl) HO4.out
        ⟨w.heap.size, 0, none⟩ 1 1 [.int .u8 (IntKind.u8.wrap (x * 2 ^ (8 - N % 8).toNat))] (by rfl) (by rfl) HO3.out HO5.out
        (by omega) hmx hby HO1.out (w.heap.size + 1) HO2.out ?_; intro gg cap w1 hown1 hgrow hat hlt1; have HB1 := Lib.hid ((HB.out.alloc (.cells #[.int .u8 (IntKind.u8.wrap (x * 2 ^ (8 - N % 8).toNat))] 5)).drew.drew.grown hgrow (fun e => hq2 e.symm)); have hc1 := HB1.out.cell 0; have hc2 := HB1.out.cell 1; have hf1 := HB1.out.frozen))
  all_goals
    go_wp2
    go_end0
    have := HN.out
    rw [IntKind.wrap_u8] at hown1
    refine ⟨rfl, Wr.both_set HB1.out hbase hown1 (B := B.set q y ++ [_]) (by rw [u8s_append]; rfl) HP.out (by rw [List.length_append, topb_length]; omega), ?_, ?_⟩
    rotate_left
    · exact ((((((Keeps.refl _).set_row HOW.out rfl q _).alloc _).drew.drew.grown (v := .slice (some ⟨g, 0, none⟩) (q + 1) c) HO4.out hgrow).set_writer HB1.out 0 _).set_writer (HB1.out.set_ 0 _) 1 _)
    exact (((((HST.out.alloc (by simp; omega) _).drew.drew.grown hgrow (by simp; omega) (fun k hk => ((HO4.out.lt k hk).1)))).setCell hbase _).setCell hbase _)

/-- 'lay' at any length, any byte, any number of bits up to eight. -/
theorem lay_full (base gw : Nat) (L : List Bool) (b m : Int) (w : World) (hwr : Wr w base gw L) (hL : (L.length : Int) ≤ 1000000000) (hb : 0 ≤ b ∧ b < 256) (hm : 0 ≤ m) (hm8 : m ≤ 8) (hbs : base ≤ w.heap.size) :
    Calls Try.prog 39 #[.pointer (some ⟨gw, 0, none⟩), .int .u8 b, .int .i64 m] w fun e w' => e = .returned (.tuple #[]) ∧ Wr w' base gw (L ++ topb b m.toNat) ∧ Below base w w' ∧ Keeps w w' := by
  by_cases hk : L.length % 8 = 0
  · by_cases h0 : m = 0
    · subst h0
      refine (lay_nothing base gw L b w hwr hL hk hb).mono fun e w' h => ?_
      simpa [topb] using h
    · exact lay_fresh base gw L b m w hwr hL hk hb (by omega) hm8 hbs
  · by_cases hf : m ≤ 8 - (L.length : Int) % 8
    · exact lay_inside base gw L b m w hwr hL hk hb hm hm8 hf
    · exact lay_across base gw L b m w hwr hL hk hb hm hm8 (by omega) hbs

theorem lay_any (base gw : Nat) (L : List Bool) (b m : Int) (w : World) (hwr : Wr w base gw L) (hL : (L.length : Int) ≤ 1000000000) (hb : 0 ≤ b ∧ b < 256) (hm : 0 ≤ m) (hm8 : m ≤ 8) (hbs : base ≤ w.heap.size) :
    Calls Try.prog 39 #[.pointer (some ⟨gw, 0, none⟩), .int .u8 b, .int .i64 m] w fun e w' => e = .returned (.tuple #[]) ∧ Wr w' base gw (L ++ topb b m.toNat) ∧ Below base w w' :=
  (lay_full base gw L b m w hwr hL hb hm hm8 hbs).mono fun _ _ h => ⟨h.1, h.2.1, h.2.2.1⟩

end Go.Proofs.Yteemncpmcfflmaa
