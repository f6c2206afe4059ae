/-
  (*note.writer).number, .numbers: numbers are laid behind bytes.
-/
import Derived.Test.YtokolgelmikfmaaNtMay
import Derived.Deep.RegionHeld3
import Derived.Deep.RegionLaw
import Derived.BigRegion
import Derived.Laws.Pointers
namespace Go.Proofs.Ytokolgelmikfmaa
open Go.RowKit Pl
set_option linter.unusedVariables false

theorem info_u8 : (Try.prog.info? 5).map (fun i => (i.zero, i.size, i.bytes)) = some (some (.int .u8 0), 1, 1) := by kernel_rfl
theorem own_len {w : World} {base n : Nat} {e : TypeId} {v : Value} {B : List Int} (h : w.ownsRow base e 1 v n (u8s B)) : B.length = n := by
  have := h.1; rw [u8s_length] at this; omega

/-- A writer in block gw holds the bytes L in a row of its own; all of it lies from block 'base' on. -/
def Wn (w : World) (base gw : Nat) (L : List Int) : Prop :=
  ∃ A n c, Blk w gw 50 #[.slice A n c] ∧ base ≤ gw ∧ w.ownsRow base 5 1 (.slice A n c) n (u8s L)

/-- Whatever block holds neither bytes nor a writer is as it was. -/
def Keeps (w w' : World) : Prop := ∀ k t cs, t ≠ 5 → t ≠ 50 → Blk w k t cs → Blk w' k t cs
theorem Keeps.refl (w : World) : Keeps w w := fun _ _ _ _ _ h => h
theorem Keeps.trans {a b c : World} (h : Keeps a b) (h' : Keeps b c) : Keeps a c := fun k t cs h1 h2 hb => h' k t cs h1 h2 (h k t cs h1 h2 hb)
theorem Keeps.alloc {a b : World} (h : Keeps a b) (o : Obj) : Keeps a (b.alloc o) := fun k t cs h1 h2 hb => (h k t cs h1 h2 hb).alloc o
theorem Keeps.drew {a b : World} (h : Keeps a b) : Keeps a b.drew := fun k t cs h1 h2 hb => h k t cs h1 h2 hb
theorem Keeps.set_writer {a b : World} (h : Keeps a b) {g : Nat} {cs : Array Value} (hb : Blk b g 50 cs) (i : Nat) (u : Value) : Keeps a (b.setCell ⟨g, i, none⟩ u) :=
  fun x t cs' h1 h2 hx => (h x t cs' h1 h2 hx).far (p := ⟨g, i, none⟩) ((h x t cs' h1 h2 hx).ne_ hb h2) u
theorem Keeps.grown {a b c : World} (h : Keeps a b) {base n : Nat} {v : Value} {xs : List Value} (ho : b.ownsRow base 5 1 v n xs) (hg : b.grownBy c v.ownBlock) : Keeps a c :=
  fun x t cs' h1 h2 hx => (h x t cs' h1 h2 hx).grown hg (fun e => own_blk_ne ho (h x t cs' h1 h2 hx) (Ne.symm h1) e.symm)
theorem Keeps.below {a b c : World} (h : Keeps a b) (hb : Below b.heap.size b c) : Keeps a c :=
  fun x t cs h1 h2 hx => (h x t cs h1 h2 hx).below hb (h x t cs h1 h2 hx).lt

theorem be_step {W k v : Nat} {D : List Int} (h : be W v = D ++ be (k + 1) v) : be W v = (D ++ [((v / 256 ^ k % 256 : Nat) : Int)]) ++ be k v := by
  rw [h, be]; simp
theorem byte_at (v k : Nat) : IntKind.u8.wrap ((v : Int) / 2 ^ (8 * k)) = ((v / 256 ^ k % 256 : Nat) : Int) := by
  rw [IntKind.wrap_u8, nat_div]
  have : (2 : Nat) ^ (8 * k) = 256 ^ k := by rw [Nat.pow_mul]
  rw [this]
  omega

set_option maxRecDepth 100000 in
set_option maxHeartbeats 2000000 in
theorem number_any (base gw : Nat) (L : List Int) (v W : Nat) (w : World) (hwr : Wn w base gw L) (hv : U64 v) (hW : W ≤ 8) (hL : (L.length : Int) ≤ 1000000) (hbs : base ≤ w.heap.size) :
    Calls Try.prog 17 #[.pointer (some ⟨gw, 0, none⟩), .int .u64 v, .int .i64 W] w fun e w' => e = .returned (.tuple #[]) ∧ Wn w' base gw (L ++ be W v) ∧ Below base w w' ∧ Keeps w w' := by
  obtain ⟨i0, hi, hz0, hz1, hz2⟩ := info_parts info_u8
  have hWI : (W : Int) ≤ 8 := by omega
  have HV := Lib.hid hv
  clear hv
  go_enter Try.func17, Try.ntmps17
  go_wp2_with fail
  go_loopw [2] (fun i wr => ∃ (k : Nat) (D : List Int), k ≤ W ∧ i = .int .i64 k ∧ Hid (be W v = D ++ be k v) ∧ Wn wr base gw (L ++ D) ∧ Below base w wr ∧ Keeps w wr) (fun i _ => (intOf i).toNat)
  case atStart => exact ⟨W, [], Nat.le_refl _, rfl, Lib.hid (by simp), by simpa using hwr, Below.refl _ _, Keeps.refl _⟩
  case round =>
    obtain ⟨wo, rfl⟩ : ∃ wo : World, wo = wr := ⟨_, rfl⟩
    obtain ⟨k, D, hk, rfl, HD, hwn, hbel, hkeep⟩ := hrel
    have hkI : (k : Int) ≤ 8 := by omega
    obtain ⟨A, n, c, hblk, hbase, hown⟩ := hwn
    by_cases h0 : k = 0
    · subst h0
      have HBL := Lib.hid hblk
      have HO := Lib.hid hown
      clear hblk hown
      go_wp2_with fail
      go_end0
      have e : L ++ be W v = L ++ D := by rw [HD.out]; simp [be]
      rw [e]
      exact ⟨rfl, ⟨A, n, c, HBL.out, hbase, HO.out⟩, hbel, hkeep⟩
    · obtain ⟨j, rfl⟩ : ∃ j, k = j + 1 := ⟨k - 1, by omega⟩
      have hnl := own_len hown
      have hDl : D.length ≤ 8 := by have := congrArg List.length HD.out; rw [be_length, List.length_append, be_length] at this; omega
      have hnI : (n : Int) ≤ 1000008 := by rw [List.length_append] at hnl; omega
      have hmx : n + 1 ≤ maxLen := by unfold maxLen; omega
      have hby : (n + 1) * 1 ≤ 140737488355328 := by omega
      have hw0 : wo.cell? ⟨gw, 0, none⟩ = some (.slice A n c) := hblk.cell 0
      have hf : ∀ i, wo.frozen? ⟨gw, i, none⟩ = false := hblk.frozen
      have hfar := own_blk_ne hown hblk (by decide)
      have HB := Lib.hid hblk
      have HO := Lib.hid hown
      have HN := Lib.hid hnl
      have hlt := hblk.lt
      have hj0 : (0 : Int) ≤ (j : Int) := by omega
      have hjm : IntKind.i64.wrap (8 * (j : Int)) = 8 * (j : Int) := IntWalk.i64_in _ (by omega)
      have hj8 : (0 : Int) ≤ 8 * (j : Int) := by omega
      obtain ⟨x, hx⟩ : ∃ x, IntKind.u8.wrap ((v : Int) / 2 ^ (8 * (j : Int)).toNat) = x := ⟨_, rfl⟩
      have hxb : x = ((v / 256 ^ j % 256 : Nat) : Int) := by rw [← hx, show (8 * (j : Int)).toNat = 8 * j from by omega]; exact byte_at v j
      have HXB := Lib.hid hxb
      have HO1 : Hid (base ≤ (wo.alloc (.cells #[.int .u8 x] 5)).drew.heap.size) := Lib.hid (by have := hbel.size; simp; omega)
      have HO2 : Hid ((wo.alloc (.cells #[.int .u8 x] 5)).drew.heap.size = wo.heap.size + 1) := Lib.hid (by simp)
      have HO3 := Lib.hid (World.news_of_block (heap_new_at wo (.cells #[.int .u8 x] 5) wo.heap.size rfl))
      have HO4 := Lib.hid (hown.alloc (.cells #[.int .u8 x] 5))
      have HO5 : Hid (∀ u ∈ [Value.int .u8 x], u.oneCell' = true) := Lib.hid (by simp [Value.oneCell'])
      clear hblk hown hnl h0 hxb
      go_wp2_with fail
      go_region_law
        ((refine step_append_lies _ (by rfl) _ _ _ (by rfl) base 5 i0 (.int .u8 0) 1 1 Try.underlying28 hi hz0 hz1 hz2 rfl (by omega) (.slice A n c) n (u8s (L ++ D)) (by rfl) HO4.out ⟨wo.heap.size, 0, none⟩ 1 1 [.int .u8 x] (by rfl) (by rfl) HO3.out HO5.out (by omega) hmx hby HO1.out (wo.heap.size + 1) HO2.out ?_; intro gg cap w1 hown1 hgrow hat hlt1; have HB1 := Lib.hid ((HB.out.alloc (.cells #[.int .u8 x] 5)).drew.grown hgrow (fun e => hfar e.symm)); have hc1 := HB1.out.cell 0; have hf1 := HB1.out.frozen))
      all_goals
        go_wp2_with fail
        go_roundw
        case rel =>
          have hne := own_blk_ne hown1 HB1.out (by decide)
          have h1 : w1.ownsRow base 5 1 (.slice (some ⟨gg, 0, none⟩) (n + 1) cap) (n + 1) (u8s (L ++ (D ++ [((v / 256 ^ j % 256 : Nat) : Int)]))) := by
            rw [← List.append_assoc, u8s_append, ← HXB.out]; exact hown1
          exact ⟨j, D ++ [((v / 256 ^ j % 256 : Nat) : Int)], by omega, rfl, Lib.hid (be_step HD.out), ⟨_, _, _, HB1.out.set_ 0 _, hbase, own_far h1 hne _⟩,
            (((hbel.alloc (Nat.le_trans hbs hbel.size) _).drew.grown hgrow HO1.out (fun k hk => ((HO4.out.lt k hk).1))).setCell hbase _),
            (((hkeep.alloc _).drew.grown (v := .slice A n c) HO4.out hgrow).set_writer HB1.out 0 _)⟩
        case measure => simp [intOf]

/-- Numbers of four bytes, one behind the other. -/
def fours (l : List Int) : List Int := l.flatMap fun x => be 4 x.toNat
theorem fours_snoc (l : List Int) (x : Int) : fours (l ++ [x]) = fours l ++ be 4 x.toNat := by simp [fours]
theorem fours_length (l : List Int) : (fours l).length = 4 * l.length := by
  induction l with
  | nil => rfl
  | cons x l ih => simp only [fours, List.flatMap_cons, List.length_append, be_length, List.length_cons] at ih ⊢; omega
def u32s (l : List Int) : List Value := l.map (Value.int .u32)

set_option maxRecDepth 100000 in
set_option maxHeartbeats 2000000 in
theorem numbers_any (base gw g c : Nat) (L l : List Int) (w : World) (hwr : Wn w base gw L) (hg : Blk w g 22 (u32s l).toArray) (hl : ∀ x ∈ l, U32 x) (hl9 : l.length ≤ 9) (hL : (L.length : Int) ≤ 100000) (hbs : base ≤ w.heap.size) :
    Calls Try.prog 16 #[.pointer (some ⟨gw, 0, none⟩), .slice (some ⟨g, 0, none⟩) l.length c] w fun e w' => e = .returned (.tuple #[]) ∧ Wn w' base gw (L ++ fours l) ∧ Below base w w' ∧ Keeps w w' := by
  obtain ⟨n, hn⟩ : ∃ n, l.length = n := ⟨_, rfl⟩
  rw [hn] at hl9 ⊢
  have HN := Lib.hid hn
  have HL := Lib.hid hl
  have HG := Lib.hid hg
  have hnI : (n : Int) ≤ 9 := by omega
  clear hn hl hg
  go_enter Try.func16, Try.ntmps16
  go_wp2_with fail
  go_loopw [8] (fun i wr => ∃ (k : Nat), k ≤ n ∧ i = .int .i64 k ∧ Wn wr base gw (L ++ fours (l.take k)) ∧ Below base w wr ∧ Keeps w wr) (fun i _ => n - (intOf i).toNat)
  case atStart => exact ⟨0, Nat.zero_le _, rfl, by simpa [fours] using hwr, Below.refl _ _, Keeps.refl _⟩
  case round =>
    obtain ⟨wo, rfl⟩ : ∃ wo : World, wo = wr := ⟨_, rfl⟩
    obtain ⟨k, hk, rfl, hwn, hbel, hkeep⟩ := hrel
    have hk' : (k : Int) ≤ n := by omega
    have hk0 : (0 : Int) ≤ (k : Int) := by omega
    by_cases h0 : k = n
    · subst h0
      have HW := Lib.hid hwn
      clear hwn
      go_wp2_with fail
      go_end0
      have e : l.take k = l := List.take_of_length_le (by rw [HN.out]; exact Nat.le_refl _)
      have h := HW.out
      rw [e] at h
      exact ⟨rfl, h, hbel, hkeep⟩
    · have hlt : k < n := by omega
      have hltI : (k : Int) < (n : Int) := by omega
      have hlt2 : decide (k < n) = true := by simp; omega
      obtain ⟨x, hx⟩ : ∃ x, l[k]? = some x := ⟨l[k]'(by rw [HN.out]; exact hlt), List.getElem?_eq_getElem (by rw [HN.out]; exact hlt)⟩
      have hx32 := HL.out x (List.mem_of_getElem? hx)
      have hxx : x = ((x.toNat : Nat) : Int) := by simp only [U32] at hx32; omega
      obtain ⟨y, hy⟩ : ∃ y, x.toNat = y := ⟨_, rfl⟩
      have hy64 : U64 (y : Int) := by simp only [U32] at hx32; simp only [U64]; omega
      have e0 : wo.cell? ⟨g, k, none⟩ = some (.int .u32 x) := by
        rw [(hkeep g _ _ (by decide) (by decide) HG.out).cell k]
        simp [u32s, hx]
      have hs : l.take (k + 1) = l.take k ++ [x] := by rw [List.take_add_one, hx]; rfl
      have HS : Hid (L ++ fours (l.take (k + 1)) = (L ++ fours (l.take k)) ++ be 4 y) := Lib.hid (by rw [hs, fours_snoc, hy, List.append_assoc])
      have hlen : (((L ++ fours (l.take k)).length : Nat) : Int) ≤ 1000000 := by
        rw [List.length_append, fours_length, List.length_take, HN.out]; omega
      have NUM := fun (h : base ≤ wo.heap.size) => number_any base gw (L ++ fours (l.take k)) y 4 wo hwn hy64 (by decide) hlen h
      have hsz : base ≤ wo.heap.size := by have := hbel.size; omega
      have HNUM := Lib.hid (NUM hsz)
      rw [hy] at hxx
      subst hxx
      have hy32 : (y : Int) < 4294967296 := by simp only [U32] at hx32; omega
      clear hx hx32 hy hy64 hs hlen NUM hwn h0
      go_wp2_with fail
      refine (HNUM.out).mono ?_
      rintro e w1 ⟨rfl, hw1, hb1, hk1⟩
      go_wp2_with fail
      go_roundw
      case rel => exact ⟨k + 1, by omega, by go_num, by rw [HS.out]; exact hw1, hbel.trans hb1, hkeep.trans hk1⟩
      case measure => simp [intOf]; omega
end Go.Proofs.Ytokolgelmikfmaa
