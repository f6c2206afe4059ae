/-
  (*note.reader).take, .number, .small, .place: bytes are taken off a front; where they end, a panic.
-/
import Derived.Test.YtokolgelmikfmaaNtW
import Derived.Lib.SliceRun
namespace Go.Proofs.Ytokolgelmikfmaa
open Go.RowKit Pl
set_option linter.unusedVariables false

/-- The slice at A reads as the bytes L, in a block below gr. -/
def Rdl (w : World) (gr : Nat) (A : Option Addr) (L : List Int) : Prop :=
  L = [] ∨ ∃ g o, A = some ⟨g, o, none⟩ ∧ g < gr ∧ ∀ i, i < L.length → w.cell? ⟨g, o + i, none⟩ = some (.int .u8 (nth L i))
theorem Rdl.below {w w' : World} {gr : Nat} {A : Option Addr} {L : List Int} (h : Rdl w gr A L) (hb : Below gr w w') : Rdl w' gr A L := by
  rcases h with rfl | ⟨g, o, rfl, hg, hc⟩
  · exact .inl rfl
  · exact .inr ⟨g, o, rfl, hg, fun i hi => (hb.cell (p := ⟨g, o + i, none⟩) hg).trans (hc i hi)⟩
theorem Rdl.of_rd {w : World} {gr : Nat} {A : Option Addr} {L : List Int} (h : Rd w A L) (hg : w.heap.size ≤ gr) : Rdl w gr A L := by
  rcases h with rfl | ⟨g, o, rfl, hg', hc⟩
  · exact .inl rfl
  · exact .inr ⟨g, o, rfl, by omega, hc⟩
theorem Rdl.rd {w : World} {gr : Nat} {A : Option Addr} {L : List Int} (h : Rdl w gr A L) (hg : gr ≤ w.heap.size) : Rd w A L := by
  rcases h with rfl | ⟨g, o, rfl, hg', hc⟩
  · exact .inl rfl
  · exact .inr ⟨g, o, rfl, by omega, hc⟩
theorem nth_drop (L : List Int) (k i : Nat) : nth (L.drop k) i = nth L (k + i) := by
  simp [nth, List.getD_eq_getElem?_getD]
theorem nth_take {L : List Int} {k i : Nat} (h : i < k) : nth (L.take k) i = nth L i := by
  simp [nth, List.getD_eq_getElem?_getD, List.getElem?_take_of_lt h]
theorem Rdl.take {w : World} {gr : Nat} {A : Option Addr} {L : List Int} (h : Rdl w gr A L) (k : Nat) : Rdl w gr A (L.take k) := by
  rcases h with rfl | ⟨g, o, rfl, hg, hc⟩
  · exact .inl (by simp)
  · exact .inr ⟨g, o, rfl, hg, fun i hi => by
      rw [List.length_take] at hi
      rw [nth_take (by omega)]
      exact hc i (by omega)⟩
theorem Rdl.drop {w : World} {gr g o : Nat} {L : List Int} (h : Rdl w gr (some ⟨g, o, none⟩) L) (k : Nat) : Rdl w gr (some ⟨g, o + k, none⟩) (L.drop k) := by
  rcases h with rfl | ⟨g', o', hA, hg, hc⟩
  · exact .inl (by simp)
  · injection hA with hA
    injection hA with h1 h2
    subst h1; subst h2
    exact .inr ⟨g, o + k, rfl, hg, fun i hi => by
      rw [List.length_drop] at hi
      rw [nth_drop, Nat.add_assoc]
      exact hc (k + i) (by omega)⟩

/-- A reader in block gr stands at place p of the bytes Bs. -/
def Rr (w : World) (gr : Nat) (Bs : List Int) (p : Nat) : Prop :=
  ∃ A c, Blk w gr 58 #[.slice A (Bs.length - p) c] ∧ Bs.length - p ≤ c ∧ Rdl w gr A (Bs.drop p) ∧ p ≤ Bs.length
/-- Every block but one is as it was. -/
def KeepN (gr : Nat) (w w' : World) : Prop := ∀ k t cs, k ≠ gr → Blk w k t cs → Blk w' k t cs
theorem KeepN.refl (gr : Nat) (w : World) : KeepN gr w w := fun _ _ _ _ h => h
theorem KeepN.trans {gr : Nat} {a b c : World} (h : KeepN gr a b) (h' : KeepN gr b c) : KeepN gr a c := fun k t cs hk hb => h' k t cs hk (h k t cs hk hb)
theorem KeepN.alloc {gr : Nat} {a b : World} (h : KeepN gr a b) (o : Obj) : KeepN gr a (b.alloc o) := fun k t cs hk hb => (h k t cs hk hb).alloc o
theorem KeepN.set_new {gr : Nat} {a b : World} (h : KeepN gr a b) {g : Nat} (hg : a.heap.size ≤ g) (i : Nat) (u : Value) : KeepN gr a (b.setCell ⟨g, i, none⟩ u) :=
  fun k t cs hk hb => (h k t cs hk hb).far (p := ⟨g, i, none⟩) (by have := hb.lt; simp; omega) u
theorem KeepN.below {gr : Nat} {a b c : World} (h : KeepN gr a b) (hb : Below b.heap.size b c) : KeepN gr a c := fun k t cs hk hx => (h k t cs hk hx).below hb (h k t cs hk hx).lt
theorem KeepN.set_ {gr : Nat} {a b : World} (h : KeepN gr a b) (i : Nat) (u : Value) : KeepN gr a (b.setCell ⟨gr, i, none⟩ u) := fun k t cs hk hb => (h k t cs hk hb).far (p := ⟨gr, i, none⟩) hk u

/-- So many bytes are taken. -/
def RetTake (gr : Nat) (Bs : List Int) (p k : Nat) (w : World) (e : Ending) (w' : World) : Prop :=
  ∃ A c, e = .returned (.slice A k c) ∧ Rdl w' gr A ((Bs.drop p).take k) ∧ Rr w' gr Bs (p + k) ∧ Below gr w w' ∧ KeepN gr w w'
/-- The call panics with 'short'. -/
def Shorts (gr : Nat) (w : World) (e : Ending) (w' : World) : Prop :=
  e = .panicked [{ v := .iface 57 (.agg #[]), recovered := false }] ∧ Below gr w w' ∧ KeepN gr w w'

set_option maxHeartbeats 1000000 in
theorem take_short (gr : Nat) (Bs : List Int) (p k : Nat) (w : World) (hrr : Rr w gr Bs p) (hl : (Bs.length : Int) ≤ 1000000) (hk : (k : Int) ≤ 1000000) (hs : Bs.length < p + k) :
    Calls Try.prog 35 #[.pointer (some ⟨gr, 0, none⟩), .int .i64 k] w (Shorts gr w) := by
  obtain ⟨A, c, hb, hc, hr, hp⟩ := hrr
  obtain ⟨m, hm⟩ : ∃ m, Bs.length - p = m := ⟨_, rfl⟩
  have hmk : (m : Int) < (k : Int) := by omega
  have hd : decide (m < k) = true := by simp; omega
  rw [hm] at hb
  have hcell := hb.cell 0
  clear hm hb hr hp hs hc
  go_enter Try.func35, Try.ntmps35
  go_wp2_with fail
  exact ⟨rfl, rfl, Below.refl _ _, KeepN.refl _ _⟩

set_option maxHeartbeats 1000000 in
theorem take_fits (gr : Nat) (Bs : List Int) (p k : Nat) (w : World) (hrr : Rr w gr Bs p) (hl : (Bs.length : Int) ≤ 1000000) (hs : p + k ≤ Bs.length) :
    Calls Try.prog 35 #[.pointer (some ⟨gr, 0, none⟩), .int .i64 k] w (RetTake gr Bs p k w) := by
  obtain ⟨A, c, hb, hc, hr, hp⟩ := hrr
  obtain ⟨m, hm⟩ : ∃ m, Bs.length - p = m := ⟨_, rfl⟩
  have hmk : (k : Int) ≤ (m : Int) := by omega
  have hd : decide (m < k) = false := by simp; omega
  have hk0 : (0 : Int) ≤ (k : Int) := by omega
  rw [hm] at hb hc
  have hkc : (k : Int) ≤ (c : Int) := by omega
  have hmc : (m : Int) ≤ (c : Int) := by omega
  have HM := Lib.hid hm
  have hlen : (Bs.drop p).length = m := by rw [List.length_drop]; exact hm
  have HS := Lib.hid hs
  have HP := Lib.hid hp
  rcases A with _ | a
  · have hnil : Bs.drop p = [] := by
      rcases hr with h | ⟨g, o, h, _⟩
      · exact h
      · cases h
    have hm0 : m = 0 := by rw [← hlen, hnil]; rfl
    subst hm0
    obtain rfl : k = 0 := by omega
    have hcell := hb.cell 0
    have hf := hb.frozen
    have HB := Lib.hid hb
    have HN := Lib.hid hnil
    clear hm hb hp hs hc hlen hr hnil
    by_cases hc0 : c = 0
    · subst hc0
      go_enter Try.func35, Try.ntmps35
      go_wp2_with fail
      go_ret
      refine ⟨none, 0, rfl, .inl (by rw [HN.out]; rfl), ⟨none, 0, ?_, by have := HM.out; omega, .inl (by rw [Nat.add_zero]; exact HN.out), HS.out⟩, (Below.refl _ _).setCell (p := ⟨gr, 0, none⟩) (Nat.le_refl gr) _, (KeepN.refl _ _).set_ 0 _⟩
      rw [Nat.add_zero, HM.out]
      exact HB.out.set_ 0 _
    · have hc1 : ¬ ((c : Int) = 0) := by omega
      go_enter Try.func35, Try.ntmps35
      go_wp2_with fail
      go_ret
      refine ⟨none, c, rfl, .inl (by rw [HN.out]; rfl), ⟨none, c, ?_, by have := HM.out; omega, .inl (by rw [Nat.add_zero]; exact HN.out), HS.out⟩, (Below.refl _ _).setCell (p := ⟨gr, 0, none⟩) (Nat.le_refl gr) _, (KeepN.refl _ _).set_ 0 _⟩
      rw [Nat.add_zero, HM.out]
      exact HB.out.set_ 0 _
  · have hmk2 : Bs.length - (p + k) = m - k := by omega
    have HMK := Lib.hid hmk2
    by_cases hck : c = k
    · subst hck
      obtain rfl : m = c := by omega
      have hcell := hb.cell 0
      have hf := hb.frozen
      have HB := Lib.hid hb
      have hd2 : Bs.drop (p + m) = [] := List.drop_eq_nil_of_le (by omega)
      have HD := Lib.hid hd2
      clear hm hb hp hs hc hmk2 hlen hd2
      go_enter Try.func35, Try.ntmps35
      go_wp2_with fail
      go_ret
      refine ⟨some a, m, rfl, (hr.take m).below ((Below.refl _ _).setCell (p := ⟨gr, 0, none⟩) (Nat.le_refl gr) _), ⟨some a, 0, ?_, by have := HMK.out; omega, .inl HD.out, HS.out⟩, (Below.refl _ _).setCell (p := ⟨gr, 0, none⟩) (Nat.le_refl gr) _, (KeepN.refl _ _).set_ 0 _⟩
      rw [HMK.out, Nat.sub_self]
      exact HB.out.set_ 0 _
    · have hcell := hb.cell 0
      have hf := hb.frozen
      have HB := Lib.hid hb
      have hr2 : Rdl w gr (some (a.add k)) (Bs.drop (p + k)) := by
        rcases hr with h | ⟨g, o, hA, hg, hcc⟩
        · left
          rw [← List.drop_drop, h]; simp
        · injection hA with hA
          subst hA
          have e : (⟨g, o, none⟩ : Addr).add k = ⟨g, o + k, none⟩ := by unfold Addr.add; split <;> simp_all
          rw [e, ← List.drop_drop]
          exact Rdl.drop (.inr ⟨g, o, rfl, hg, hcc⟩) k
      clear hm hb hp hs hc hmk2 hlen
      go_enter Try.func35, Try.ntmps35
      go_wp2_with fail
      go_ret
      refine ⟨some a, c, rfl, (hr.take k).below ((Below.refl _ _).setCell (p := ⟨gr, 0, none⟩) (Nat.le_refl gr) _), ⟨some (a.add k), c - k, ?_, by have := HMK.out; omega, hr2.below ((Below.refl _ _).setCell (p := ⟨gr, 0, none⟩) (Nat.le_refl gr) _), HS.out⟩, (Below.refl _ _).setCell (p := ⟨gr, 0, none⟩) (Nat.le_refl gr) _, (KeepN.refl _ _).set_ 0 _⟩
      rw [HMK.out]
      exact HB.out.set_ 0 _

/-- A number is read. -/
def RetNum (gr : Nat) (Bs : List Int) (p W : Nat) (w : World) (e : Ending) (w' : World) : Prop :=
  e = .returned (.int .u64 (num Bs p W : Nat)) ∧ Rr w' gr Bs (p + W) ∧ Below gr w w' ∧ KeepN gr w w'

theorem byte_push {a x : Int} (n : Nat) (ha : a = (n : Int)) (hn : n < 72057594037927936) (hx : 0 ≤ x ∧ x < 256) :
    bits .or .u64 (IntKind.u64.wrap (a * 256)) x = ((n * 256 + x.toNat : Nat) : Int) := by
  subst ha
  have h1 : n < 2 ^ 56 := by have : (2 : Nat) ^ 56 = 72057594037927936 := by decide
                             omega
  have h2 : x.toNat < 2 ^ 8 := by have : (2 : Nat) ^ 8 = 256 := by decide
                                  omega
  have h := push_bits (v := n) (k := 56) (n := 8) (x := x.toNat) h1 h2 (by decide)
  have e1 : (2 : Int) ^ 8 = 256 := by decide
  have e2 : (2 : Nat) ^ 8 = 256 := by decide
  rw [e1, e2, Int.toNat_of_nonneg hx.1] at h
  exact h

set_option maxHeartbeats 1000000 in
theorem rnumber_short (gr : Nat) (Bs : List Int) (p W : Nat) (w : World) (hrr : Rr w gr Bs p) (hl : (Bs.length : Int) ≤ 1000000) (hW : W ≤ 8) (hs : Bs.length < p + W) :
    Calls Try.prog 30 #[.pointer (some ⟨gr, 0, none⟩), .int .i64 W] w (Shorts gr w) := by
  have T := take_short gr Bs p W w hrr hl (by omega) hs
  have HT := Lib.hid T
  clear T hrr hl hW hs
  go_enter Try.func30, Try.ntmps30
  go_wp2_with fail
  refine HT.out.mono ?_
  rintro e w1 ⟨rfl, hb1, hk1⟩
  exact ⟨rfl, rfl, hb1, hk1⟩

set_option maxHeartbeats 1000000 in
theorem rnumber_fits (gr : Nat) (Bs : List Int) (p W : Nat) (w : World) (hrr : Rr w gr Bs p) (hB : Byts Bs) (hl : (Bs.length : Int) ≤ 1000000) (hW : W ≤ 8) (hs : p + W ≤ Bs.length) :
    Calls Try.prog 30 #[.pointer (some ⟨gr, 0, none⟩), .int .i64 W] w (RetNum gr Bs p W w) := by
  have T := take_fits gr Bs p W w hrr hl hs
  have HT := Lib.hid T
  have HB := Lib.hid hB
  have hWI : (W : Int) ≤ 8 := by omega
  have HS := Lib.hid hs
  clear T hrr hl hs hB
  go_enter Try.func30, Try.ntmps30
  go_wp2_with fail
  refine HT.out.mono ?_
  rintro e w1 ⟨A, c, rfl, hrd, hr1, hb1, hk1⟩
  have HR1 := Lib.hid hr1
  have HK1 := Lib.hid hk1
  clear HT hr1 hk1
  go_wp2_with fail
  go_loop [5, 12] (fun n i => ∃ k : Nat, k ≤ W ∧ i = .int .i64 k ∧ n = .int .u64 (num Bs p k : Nat)) (fun _ i => W - (intOf i).toNat)
  case atStart => exact ⟨0, Nat.zero_le _, rfl, rfl⟩
  case round =>
    obtain ⟨k, hk, rfl, rfl⟩ := hrel
    have hk' : (k : Int) ≤ W := by omega
    have hk0 : (0 : Int) ≤ (k : Int) := by omega
    by_cases h0 : k = W
    · subst h0
      go_wp2_with fail
      go_ret
      exact ⟨rfl, HR1.out, hb1, HK1.out⟩
    · have hlt : k < W := by omega
      have hltI : (k : Int) < (W : Int) := by omega
      have hlt2 : decide (k < W) = true := by simp; omega
      have hlen : ((Bs.drop p).take W).length = W := by rw [List.length_take, List.length_drop]; have := HS.out; omega
      obtain ⟨g, o, hA, hg, hc⟩ : ∃ g o, A = some ⟨g, o, none⟩ ∧ g < gr ∧ ∀ i, i < W → w1.cell? ⟨g, o + i, none⟩ = some (.int .u8 (nth ((Bs.drop p).take W) i)) := by
        rcases hrd with h | ⟨g, o, hA, hg, hc⟩
        · rw [h] at hlen; simp at hlen; omega
        · exact ⟨g, o, hA, hg, fun i hi => hc i (by omega)⟩
      subst hA
      have hck := hc k hlt
      rw [nth_take hlt, nth_drop] at hck
      obtain ⟨x, hx⟩ : ∃ x, nth Bs (p + k) = x := ⟨_, rfl⟩
      rw [hx] at hck
      have hx8 : 0 ≤ x ∧ x < 256 := by rw [← hx]; exact byts_get HB.out (p + k)
      have hx0 := hx8.1
      have hx1 := hx8.2
      obtain ⟨y, hy⟩ : ∃ y, num Bs p k = y := ⟨_, rfl⟩
      have hyl : y < 72057594037927936 := by
        have h1 := num_lt HB.out p k
        rw [hy] at h1
        have h2 : 256 ^ k ≤ 256 ^ 7 := Nat.pow_le_pow_right (by decide) (by omega)
        have h3 : (256 : Nat) ^ 7 = 72057594037927936 := by decide
        omega
      have HNX : Hid ((num Bs p (k + 1) : Nat) = y * 256 + x.toNat) := Lib.hid (by
        rw [num_snoc, hy]
        show y * 256 + (nth Bs (p + k)).toNat = _
        rw [hx])
      have HPU := Lib.hid (byte_push (a := (y : Int)) y rfl hyl hx8)
      rw [hy]
      clear hx hy hyl hx8 hc hlen h0
      go_wp2_with fail
      refine ⟨⟨k + 1, by omega, by go_num, by rw [HPU.out, HNX.out]⟩, by simp [intOf]; omega⟩

set_option maxHeartbeats 1000000 in
theorem small_short (gr : Nat) (Bs : List Int) (p : Nat) (w : World) (hrr : Rr w gr Bs p) (hl : (Bs.length : Int) ≤ 1000000) (hs : Bs.length < p + 4) :
    Calls Try.prog 31 #[.pointer (some ⟨gr, 0, none⟩)] w (Shorts gr w) := by
  have HT := Lib.hid (rnumber_short gr Bs p 4 w hrr hl (by decide) hs)
  clear hrr hl hs
  go_enter Try.func31, Try.ntmps31
  go_wp2_with fail
  refine HT.out.mono ?_
  rintro e w1 ⟨rfl, hb1, hk1⟩
  exact ⟨rfl, rfl, hb1, hk1⟩

/-- A number of four bytes is read. -/
def RetSmall (gr : Nat) (Bs : List Int) (p : Nat) (w : World) (e : Ending) (w' : World) : Prop :=
  e = .returned (.int .u32 (num Bs p 4 : Nat)) ∧ Rr w' gr Bs (p + 4) ∧ Below gr w w' ∧ KeepN gr w w'

set_option maxHeartbeats 1000000 in
theorem small_fits (gr : Nat) (Bs : List Int) (p : Nat) (w : World) (hrr : Rr w gr Bs p) (hB : Byts Bs) (hl : (Bs.length : Int) ≤ 1000000) (hs : p + 4 ≤ Bs.length) :
    Calls Try.prog 31 #[.pointer (some ⟨gr, 0, none⟩)] w (RetSmall gr Bs p w) := by
  have HT := Lib.hid (rnumber_fits gr Bs p 4 w hrr hB hl (by decide) hs)
  have h4 := num_lt hB p 4
  rw [pow4] at h4
  obtain ⟨y, hy⟩ : ∃ y, num Bs p 4 = y := ⟨_, rfl⟩
  unfold RetNum at HT
  unfold RetSmall
  rw [hy] at HT h4 ⊢
  have hyI : (y : Int) < 4294967296 := by omega
  have hy0 : (0 : Int) ≤ (y : Int) := by omega
  clear hrr hl hs hB hy h4
  go_enter Try.func31, Try.ntmps31
  go_wp2_with fail
  refine HT.out.mono ?_
  rintro e w1 ⟨rfl, hr1, hb1, hk1⟩
  go_wp2_with fail
  go_ret
  exact ⟨ret_int (by first | rfl | (simp [IntKind.wrap, IntKind.bits, IntKind.signed]; omega)), hr1, hb1, hk1⟩

/-- A place is read. -/
def RetPlace (gr : Nat) (Bs : List Int) (p : Nat) (w : World) (e : Ending) (w' : World) : Prop :=
  e = .returned (.agg #[.int .u32 (num Bs p 4 : Nat), .int .u32 (num Bs (p + 4) 4 : Nat), .int .u32 (num Bs (p + 8) 4 : Nat)]) ∧ Rr w' gr Bs (p + 12) ∧ Below gr w w' ∧ KeepN gr w w'

theorem Rr.alloc {w : World} {gr : Nat} {Bs : List Int} {p : Nat} (h : Rr w gr Bs p) (o : Obj) : Rr (w.alloc o) gr Bs p := by
  obtain ⟨A, c, hb, hc, hr, hp⟩ := h
  exact ⟨A, c, hb.alloc o, hc, hr.below ((Below.refl _ _).alloc (Nat.le_of_lt hb.lt) o), hp⟩
theorem Rr.set_far {w : World} {gr : Nat} {Bs : List Int} {p : Nat} (h : Rr w gr Bs p) {g : Nat} (hg : gr < g) (i : Nat) (u : Value) : Rr (w.setCell ⟨g, i, none⟩ u) gr Bs p := by
  obtain ⟨A, c, hb, hc, hr, hp⟩ := h
  exact ⟨A, c, hb.far (p := ⟨g, i, none⟩) (by simp; omega) u, hc, hr.below ((Below.refl _ _).setCell (p := ⟨g, i, none⟩) (Nat.le_of_lt hg) u), hp⟩
theorem Rr.lt {w : World} {gr : Nat} {Bs : List Int} {p : Nat} (h : Rr w gr Bs p) : gr < w.heap.size := by
  obtain ⟨A, c, hb, hc, hr, hp⟩ := h
  exact hb.lt

set_option maxHeartbeats 1000000 in
theorem place_short (gr : Nat) (Bs : List Int) (p : Nat) (w : World) (hrr : Rr w gr Bs p) (hB : Byts Bs) (hl : (Bs.length : Int) ≤ 1000000) (hs : Bs.length < p + 12) :
    Calls Try.prog 32 #[.pointer (some ⟨gr, 0, none⟩)] w (Shorts gr w) := by
  have hrr0 := hrr.alloc (.cells #[.int .u32 0, .int .u32 0, .int .u32 0] 27)
  have hgl := hrr.lt
  have S := fun p wx (h : Rr wx gr Bs p) (hh : Bs.length < p + 4) => small_short gr Bs p wx h hl hh
  have T := fun p wx (h : Rr wx gr Bs p) (hh : p + 4 ≤ Bs.length) => small_fits gr Bs p wx h hB hl hh
  have HS := Lib.hid S
  have HT := Lib.hid T
  obtain ⟨n, hn⟩ : ∃ n, Bs.length = n := ⟨_, rfl⟩
  rw [hn] at hs HS HT
  have hb0 : Below gr w (w.alloc (.cells #[.int .u32 0, .int .u32 0, .int .u32 0] 27)) := (Below.refl _ _).alloc (Nat.le_of_lt hgl) _
  have hk0 : KeepN gr w (w.alloc (.cells #[.int .u32 0, .int .u32 0, .int .u32 0] 27)) := (KeepN.refl _ _).alloc _
  clear S T hrr hB hl hn
  go_enter Try.func32, Try.ntmps32
  go_wp2_with fail
  by_cases h1 : n < p + 4
  · refine (HS.out p _ hrr0 h1).mono ?_
    rintro e w1 ⟨rfl, hb1, hk1⟩
    exact ⟨rfl, rfl, hb0.trans hb1, hk0.trans hk1⟩
  · refine (HT.out p _ hrr0 (by omega)).mono ?_
    rintro e w1 ⟨rfl, hr1, hb1, hk1⟩
    replace hb1 := hb0.trans hb1
    replace hk1 := hk0.trans hk1
    have HK1 := Lib.hid hk1
    have HR1 := Lib.hid hr1
    clear hk1 hr1 hk0 hrr0
    go_wp2_with fail
    by_cases h2 : n < p + 4 + 4
    · refine (HS.out (p + 4) _ HR1.out h2).mono ?_
      rintro e w2 ⟨rfl, hb2, hk2⟩
      exact ⟨rfl, rfl, hb1.trans hb2, HK1.out.trans hk2⟩
    · refine (HT.out (p + 4) _ HR1.out (by omega)).mono ?_
      rintro e w2 ⟨rfl, hr2, hb2, hk2⟩
      replace hb2 := hb1.trans hb2
      have HK2 := Lib.hid (HK1.out.trans hk2)
      have HR2 := Lib.hid hr2
      clear hk2 hr2
      go_wp2_with fail
      refine (HS.out (p + 4 + 4) _ HR2.out (by omega)).mono ?_
      rintro e w3 ⟨rfl, hb3, hk3⟩
      exact ⟨rfl, rfl, hb2.trans hb3, HK2.out.trans hk3⟩

set_option maxHeartbeats 1000000 in
theorem place_fits (gr : Nat) (Bs : List Int) (p : Nat) (w : World) (hrr : Rr w gr Bs p) (hB : Byts Bs) (hl : (Bs.length : Int) ≤ 1000000) (hs : p + 12 ≤ Bs.length) :
    Calls Try.prog 32 #[.pointer (some ⟨gr, 0, none⟩)] w (RetPlace gr Bs p w) := by
  have hrr0 := hrr.alloc (.cells #[.int .u32 0, .int .u32 0, .int .u32 0] 27)
  have hgl := hrr.lt
  have T := fun p wx (h : Rr wx gr Bs p) (hh : p + 4 ≤ Bs.length) => small_fits gr Bs p wx h hB hl hh
  unfold RetSmall at T
  have HT := Lib.hid T
  have hb0 : Below gr w (w.alloc (.cells #[.int .u32 0, .int .u32 0, .int .u32 0] 27)) := (Below.refl _ _).alloc (Nat.le_of_lt hgl) _
  have hk0 : KeepN gr w (w.alloc (.cells #[.int .u32 0, .int .u32 0, .int .u32 0] 27)) := (KeepN.refl _ _).alloc _
  have HX := Lib.hid (Blk.new w 27 #[.int .u32 0, .int .u32 0, .int .u32 0])
  unfold RetPlace
  clear T hrr hB hl
  have hgn : ¬ w.heap.size = gr := by omega
  go_enter Try.func32, Try.ntmps32
  go_wp2_with fail
  refine (HT.out p _ hrr0 (by omega)).mono ?_
  rintro e w1 ⟨rfl, hr1, hb1, hk1⟩
  replace hb1 := hb0.trans hb1
  have HX1 := Lib.hid (hk1 _ _ _ hgn HX.out)
  have HK1 := Lib.hid (hk0.trans hk1)
  have HR1 := Lib.hid hr1
  clear hk1 hr1 hk0 hrr0 hb0 HX
  go_wp2_with fail
  refine (HT.out (p + 4) _ HR1.out (by omega)).mono ?_
  rintro e w2 ⟨rfl, hr2, hb2, hk2⟩
  replace hb2 := hb1.trans hb2
  have HX2 := Lib.hid (hk2 _ _ _ hgn HX1.out)
  have HK2 := Lib.hid (HK1.out.trans hk2)
  have HR2 := Lib.hid hr2
  clear hk2 hr2 HX1 HK1 HR1 hb1
  go_wp2_with fail
  refine (HT.out (p + 4 + 4) _ HR2.out (by omega)).mono ?_
  rintro e w3 ⟨rfl, hr3, hb3, hk3⟩
  replace hb3 := hb2.trans hb3
  have HX3 := Lib.hid (hk3 _ _ _ hgn HX2.out)
  have HK3 := Lib.hid (HK2.out.trans hk3)
  have HR3 := Lib.hid hr3
  clear hk3 hr3 HX2 HK2 HR2 hb2
  have x0 := cells3 HX3.out
  have xf := HX3.out.frozen
  go_wp2_with fail
  refine bodyPost_ret (v := .agg #[.int .u32 (num Bs p 4 : Nat), .int .u32 (num Bs (p + 4) 4 : Nat), .int .u32 (num Bs (p + 8) 4 : Nat)]) (by simp [results, Try.results32, go_sem, x0]) rfl ?_
  exact ⟨rfl, ((HR3.out.set_far hgl 0 _).set_far hgl 1 _).set_far hgl 2 _, ((hb3.setCell (Nat.le_of_lt hgl) _).setCell (Nat.le_of_lt hgl) _).setCell (Nat.le_of_lt hgl) _, ((HK3.out.set_new (Nat.le_refl _) 0 _).set_new (Nat.le_refl _) 1 _).set_new (Nat.le_refl _) 2 _⟩

theorem flag_any (n : Nat) (hn : n ≤ 1) (w : World) :
    Calls Try.prog 33 #[.int .u64 (n : Int)] w fun e w' => e = .returned (.bool (decide (n = 1))) ∧ w = w' := by
  obtain rfl | rfl : n = 0 ∨ n = 1 := by omega
  all_goals
    go_enter Try.func33, Try.ntmps33
    go_wp2_with fail
    go_ret
    exact ⟨rfl, rfl⟩
theorem flag_short (n : Nat) (hn : 1 < n) (w : World) :
    Calls Try.prog 33 #[.int .u64 (n : Int)] w fun e w' => e = .panicked [{ v := .iface 57 (.agg #[]), recovered := false }] ∧ w = w' := by
  have hI : (1 : Int) < (n : Int) := by omega
  have hd : decide (1 < n) = true := by simp; omega
  clear hn
  go_enter Try.func33, Try.ntmps33
  go_wp2_with fail
  exact ⟨rfl, rfl, rfl⟩

set_option maxHeartbeats 1000000 in
theorem nclone_any (A : Option Addr) (c : Nat) (B : List Int) (w : World) (hr : Rd w A B) (hl : (B.length : Int) ≤ 1000000000) :
    Calls Try.prog 34 #[.slice A B.length c] w (RetRow 5 B w) := by
  obtain ⟨i0, hi, hz0, hz1, hz2⟩ := info_parts info_u8
  rcases A with _ | a
  · have hB := hr.none_
    subst hB
    have heq := fun wx => Lib.run_eql_slice_nil (P := Try.prog) wx 28 5 none 0 c 0 0 Try.underlying28
    go_enter Try.func34, Try.ntmps34
    go_wp2
    go_ret
    exact ⟨_, _, rfl, World.ownsRow_nil _ _ _ _, Below.refl _ _⟩
  · have heq := fun wx => Lib.run_eql_slice_nil (P := Try.prog) wx 28 5 (some a) B.length c 0 0 Try.underlying28
    go_enter Try.func34, Try.ntmps34
    go_wp2_with (at_builtin; refine wpList_append_rd _ rfl _ _ 28 rfl w.heap.size 5 i0 (.int .u8 0) Try.underlying28 hi hz0 hz1 hz2 rfl (.slice (some ⟨w.heap.size, 0, none⟩) 0 0) 0 [] rfl (World.ownsRow_lit w #[] 0 (Nat.le_refl _) (by decide) rfl) (some a) c B rfl (hr.alloc _) (by omega) (by simp) ?_; intro v' w1 hown1 hgrow hat)
    go_ret
    rw [Nat.zero_add, List.nil_append] at hown1
    obtain ⟨A', c', rfl, _⟩ := own_shape hown1
    refine ⟨_, _, rfl, hown1, ((Below.refl _ _).alloc (Nat.le_refl _) _).grown hgrow (by simp) (fun k hk => by simp [Value.ownBlock] at hk; omega)⟩
end Go.Proofs.Ytokolgelmikfmaa
