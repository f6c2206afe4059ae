/-
  which: the row of what stands at a place.
-/
import Derived.Test.YteemncpmcfflmaaZgPut
namespace Go.Proofs.Yteemncpmcfflmaa
open Go.RowKit Pl
set_option linter.unusedVariables false

/-- How many ones are ahead. -/
def lead : List Bool → Nat
  | true :: r => lead r + 1
  | _ => 0
theorem lead_len : ∀ M : List Bool, lead M ≤ M.length
  | [] => Nat.le_refl _
  | true :: r => by have := lead_len r; simp only [lead, List.length_cons]; omega
  | false :: r => by simp [lead]
theorem lead_true : ∀ (M : List Bool) (k : Nat), k ≤ lead M → M.getD k false = true → k < lead M
  | [], k, h, hb => by simp at hb
  | true :: r, 0, h, hb => by simp [lead]
  | true :: r, k + 1, h, hb => by
    have := lead_true r k (by simp only [lead] at h; omega) (by simpa using hb)
    simp only [lead]; omega
  | false :: r, 0, h, hb => by simp at hb
  | false :: r, k + 1, h, hb => by simp [lead] at h
theorem lead_false : ∀ (M : List Bool) (k : Nat), k ≤ lead M → M.getD k false = false → lead M = k
  | [], k, h, hb => by simp [lead] at h ⊢; omega
  | true :: r, 0, h, hb => by simp at hb
  | true :: r, k + 1, h, hb => by
    have := lead_false r k (by simp only [lead] at h; omega) (by simpa using hb)
    simp only [lead]; omega
  | false :: r, k, h, hb => by simp [lead] at h ⊢; omega
theorem getD_drop {α : Type} (L : List α) (d : α) (p k : Nat) : (L.drop p).getD k d = L.getD (p + k) d := by
  simp [List.getD_eq_getElem?_getD]

/-- The row at a place; where its number begins; is nothing there? -/
def whK (L : List Bool) (p : Nat) : Nat := min (lead (L.drop p)) 5
def whQ (L : List Bool) (p : Nat) : Nat := p + whK L p + (if whK L p < 5 then 1 else 0)
def WhE (L : List Bool) (p : Nat) : Prop := whK L p < 5 ∧ L.length ≤ p + whK L p

theorem sub_one_bit {L : List Bool} {q : Nat} (h : q < L.length) : val (sub L q 1) = (L.getD q false).toNat := by
  have e : sub L q 1 = [L.getD q false] := by
    simp only [sub]
    rw [List.drop_eq_getElem_cons h, List.getD_eq_getElem?_getD, List.getElem?_eq_getElem h]
    rfl
  rw [e, val_one]

def RetWh (k q x : Int) (w : World) (e : Ending) (w' : World) : Prop := e = .returned (.tuple #[.int .i64 k, .int .i64 q, .int .u16 x]) ∧ Below w.heap.size w w'

/-- Where the first bit cannot be had. -/
theorem which_err (A : Option Addr) (c : Nat) (B : List Int) (N p x : Int) (w : World) (hr : Rd w A B) (hx : x = 10 ∨ x = 11)
    (hG : ∀ wx, Rd wx A B → Calls Try.prog 30 #[.agg #[.slice A B.length c, .int .i64 N], .int .i64 p, .int .i64 1] wx (RetNum .u16 0 x wx)) :
    Calls Try.prog 28 #[.agg #[.slice A B.length c, .int .i64 N], .int .i64 p] w (RetWh 0 0 x w) := by
  have HG := Lib.hid hG
  obtain ⟨n, hn⟩ : ∃ n, B.length = n := ⟨_, rfl⟩
  rw [hn] at HG
  rw [hn]
  clear hG hn
  rcases hx with rfl | rfl
  all_goals
    go_enter Try.func28, Try.ntmps28
    go_wp2_with fail
    go_loopw [1, 10] (fun s1 s10 wr => s1 = .int .i64 p ∧ s10 = .int .i64 0 ∧ Hid (Blk wr w.heap.size 27 #[.slice A n c, .int .i64 N]) ∧ Below w.heap.size w wr) (fun _ s10 _ => 5 - (intOf s10).toNat)
    case atStart => exact ⟨rfl, rfl, Lib.hid (Blk.new w _ _), (Below.refl _ _).alloc (Nat.le_refl _) _⟩
    case round =>
      obtain ⟨rfl, rfl, HX, hbel⟩ := hrel
      have x0 := HX.out.cell 0
      have x1 := HX.out.cell 1
      have hrr := hr.below hbel
      go_wp2_with fail
      refine (HG.out _ hrr).mono ?_
      rintro e w1 ⟨rfl, hb1⟩
      go_wp2_with fail
      go_ret3
      exact ⟨rfl, hbel.trans (hb1.mono hbel.size)⟩

set_option maxRecDepth 100000 in
set_option maxHeartbeats 2000000 in
theorem which_at (A : Option Addr) (c : Nat) (B : List Int) (L : List Bool) (p : Nat) (w : World) (hr : Rd w A B) (hp : Packs B L) (hl : (B.length : Int) ≤ 900000) (hpl : p ≤ L.length) :
    Calls Try.prog 28 #[.agg #[.slice A B.length c, .int .i64 (L.length : Int)], .int .i64 p] w
      (fun e w' => (WhE L p → RetWh 0 0 10 w e w') ∧ (¬ WhE L p → RetWh (whK L p : Nat) (whQ L p : Nat) 0 w e w')) := by
  have hLB := hp.len
  have HGF := Lib.hid (fun (q : Nat) (hq : L.length ≤ q) (hq2 : q ≤ 10000000) wx h => get_far A c B L (q : Int) 1 wx h hp (by omega) (by decide) (by omega) (.inr (by omega)))
  have HGS := Lib.hid (fun (q : Nat) (hq : q < L.length) wx h => by
    have := get_sound A c B L q 1 wx h hp (by omega) (by decide) (by omega)
    rw [sub_one_bit hq] at this
    exact this)
  obtain ⟨n, hn⟩ : ∃ n, B.length = n := ⟨_, rfl⟩
  obtain ⟨m, hm⟩ : ∃ n, L.length = n := ⟨_, rfl⟩
  rw [hn, hm] at HGF HGS
  rw [hn, hm]
  rw [hm] at hpl
  have hpI : (p : Int) ≤ 8000000 := by omega
  have HM := Lib.hid hm
  have HPL := Lib.hid hpl
  clear hp hl hLB hn hm hpl
  go_enter Try.func28, Try.ntmps28
  go_wp2_with fail
  go_loopw [1, 10] (fun s1 s10 wr => ∃ k : Nat, s1 = .int .i64 ((p : Int) + (k : Int)) ∧ s10 = .int .i64 (k : Int) ∧ k ≤ 5 ∧ Hid (k ≤ lead (L.drop p)) ∧ Hid (Blk wr w.heap.size 27 #[.slice A n c, .int .i64 (m : Int)]) ∧ Below w.heap.size w wr) (fun _ s10 _ => 5 - (intOf s10).toNat)
  case atStart => exact ⟨0, by simp, rfl, by decide, Lib.hid (Nat.zero_le _), Lib.hid (Blk.new w _ _), (Below.refl _ _).alloc (Nat.le_refl _) _⟩
  case round =>
    obtain ⟨k, rfl, rfl, hk5, HK, HX, hbel⟩ := hrel
    have x0 := HX.out.cell 0
    have x1 := HX.out.cell 1
    have hrr := hr.below hbel
    have hkI : (k : Int) ≤ 5 := by omega
    by_cases h5 : k = 5
    · subst h5
      go_wp2_with fail
      go_ret3
      have hk := HK.out
      have e1 : whK L p = 5 := by unfold whK; omega
      have e2 : whQ L p = p + 5 := by unfold whQ; rw [e1]; rfl
      refine ⟨fun h => absurd h.1 (by rw [e1]; decide), fun _ => ⟨?_, hbel⟩⟩
      rw [e1, e2]
      rfl
    · have hlt : (k : Int) < 5 := by omega
      have hd : decide (k < 5) = true := decide_eq_true (by omega)
      have H5 := Lib.hid (show k < 5 by omega)
      clear h5
      by_cases hend : m ≤ p + k
      · have HC := Lib.hid (HGF.out (p + k) hend (by omega))
        rw [Int.natCast_add] at HC
        have HE := Lib.hid hend
        clear hend
        go_wp2_with fail
        refine (HC.out _ hrr).mono ?_
        rintro e w1 ⟨rfl, hb1⟩
        go_wp2_with fail
        go_ret3
        have hk := HK.out
        have hend := HE.out
        have h5 := H5.out
        have hle := lead_len (L.drop p)
        rw [List.length_drop, HM.out] at hle
        have e1 : whK L p = k := by unfold whK; omega
        have hW : WhE L p := ⟨by rw [e1]; exact h5, by rw [e1, HM.out]; exact hend⟩
        exact ⟨fun _ => ⟨rfl, hbel.trans (hb1.mono hbel.size)⟩, fun h => absurd hW h⟩
      · have HC := Lib.hid (HGS.out (p + k) (by omega))
        rw [Int.natCast_add] at HC
        have HE := Lib.hid (show p + k < m by omega)
        clear hend
        obtain ⟨b, hb⟩ : ∃ b, L.getD (p + k) false = b := ⟨_, rfl⟩
        rw [hb] at HC
        have HB := Lib.hid hb
        clear hb
        cases b
        · go_wp2_with fail
          refine (HC.out _ hrr).mono ?_
          rintro e w1 ⟨rfl, hb1⟩
          go_wp2_with fail
          go_ret3
          have hk := lead_false _ _ HK.out (by rw [getD_drop]; exact HB.out)
          have hend := HE.out
          have h5 := H5.out
          have e1 : whK L p = k := by unfold whK; omega
          have e2 : whQ L p = p + k + 1 := by unfold whQ; rw [e1, if_pos h5]
          refine ⟨fun h => absurd h.2 (by rw [e1, HM.out]; omega), fun _ => ⟨?_, hbel.trans (hb1.mono hbel.size)⟩⟩
          rw [e1, e2]
          simp only [Int.natCast_add]
          rfl
        · go_wp2_with fail
          refine (HC.out _ hrr).mono ?_
          rintro e w1 ⟨rfl, hb1⟩
          have hk := Lib.hid (lead_true _ _ HK.out (by rw [getD_drop]; exact HB.out))
          replace HX := Lib.hid (HX.out.below hb1 HX.out.lt)
          have hbel1 := hbel.trans (hb1.mono hbel.size)
          clear hb1 x0 x1
          go_wp2_with fail
          go_roundw
          case rel => exact ⟨k + 1, by rw [Int.natCast_add, Int.add_assoc]; rfl, by go_num, by omega, hk, HX, hbel1⟩
          case measure => simp [intOf]; omega
end Go.Proofs.Yteemncpmcfflmaa
