/-
  Program and reference side by side: at whatever bits, numbers and places both answer the same.
-/
import Derived.Test.YtifjanlcfjajpaaOpen
namespace Go.Proofs.Ytifjanlcfjajpaa
open Go.RowKit Pl
set_option linter.unusedVariables false

/-- Every list of bits is packed in some row of bytes. -/
theorem packs_exist (L : List Bool) : ∃ B, Packs B L := by
  have h : ∀ k, k ≤ L.length → ∃ B, Packs B (L.take k) := by
    intro k
    induction k with
    | zero => intro _; exact ⟨[], by simpa using packs_nil⟩
    | succ k ih =>
      intro hk
      obtain ⟨B, hB⟩ := ih (by omega)
      by_cases h8 : k % 8 = 0
      · exact ⟨_, of_new hB (by omega) h8⟩
      · exact ⟨_, of_in hB (by omega) h8⟩
  obtain ⟨B, hB⟩ := h L.length (Nat.le_refl _)
  rw [List.take_length] at hB
  exact ⟨B, hB⟩

/-- The call answers these bytes in a row of its own, this number of bits, this error. -/
def RetAny (k : IntKind) (B : List Int) (N x : Int) (w : World) (e : Ending) (w' : World) : Prop :=
  ∃ A c, e = .returned (.tuple #[.agg #[.slice A B.length c, .int .i64 N], .int k x]) ∧ w'.ownsRow w.heap.size 5 1 (.slice A B.length c) B.length (u8s B) ∧ Below w.heap.size w w'

theorem RetAny.of_bits {k : IntKind} {L : List Bool} {B : List Int} {w w' : World} {e : Ending} (hp : Packs B L) (h : RetBits 5 k L w e w') : RetAny k B (L.length : Int) 0 w e w' := by
  obtain ⟨A, c, B', he, hp', hown, hb⟩ := h
  obtain rfl := packs_inj hp' hp
  exact ⟨A, c, he, hown, hb⟩
theorem RetAny.of_none {k : IntKind} {x : Int} {w w' : World} {e : Ending} (h : RetNone k x w e w') : RetAny k [] 0 x w e w' :=
  ⟨none, 0, h.1, World.ownsRow_nil _ _ _ _, h.2⟩

theorem byts_nil : Byts [] := fun x hx => absurd hx (by simp)

theorem put_both (B : List Int) (N v W : Int) (hB : Byts B) (hN : -9223372036854775808 ≤ N ∧ N ≤ 9223372036854775807) (hv : U64 v) (hl : (B.length : Int) ≤ 1000000) :
    ∃ B' N' x, Byts B' ∧ (0 ≤ x ∧ x ≤ 11) ∧ (∀ wx A c, Rd wx A B → Calls Try.prog 14 #[.agg #[.slice A B.length c, .int .i64 N], .int .u64 v, .int .i64 W] wx (RetAny .u16 B' N' x wx)) ∧
      (∀ wx A c, Rd wx A B → Calls Try.prog 19 #[.agg #[.slice A B.length c, .int .i64 N], .int .u64 v, .int .i64 W] wx (RetAny .i64 B' N' x wx)) := by
  by_cases hs : Snd B N
  · have hp := packs_of_snd hB hs
    obtain ⟨L, hL⟩ : ∃ L, bitsOf B N.toNat = L := ⟨_, rfl⟩
    have hLN : N = (L.length : Int) := by rw [← hL, bitsOf_length]; have := hs.1; omega
    rw [hL] at hp
    subst hLN
    by_cases hW : W < 0 ∨ 64 < W
    · exact ⟨[], 0, 1, byts_nil, by decide, fun wx A c h => (put_wide A c B L v W wx h hp (by omega) hW).mono fun _ _ h => .of_none h,
        fun wx A c h => (rput_wide A c B L v W wx h hp (by omega) hW).mono fun _ _ h => .of_none h⟩
    · obtain ⟨m, rfl⟩ := Int.eq_ofNat_of_zero_le (a := W) (by omega)
      obtain ⟨u, rfl⟩ := Int.eq_ofNat_of_zero_le hv.1
      obtain ⟨B', hB'⟩ := packs_exist (L ++ nbits u m)
      exact ⟨B', _, 0, hB'.byts, by decide, fun wx A c h => (put_sound A c B L u m wx h hp hl hv (by omega)).mono fun _ _ h => .of_bits hB' h,
        fun wx A c h => (rput_sound A c B L u m wx h hp hl hv (by omega)).mono fun _ _ h => .of_bits hB' h⟩
  · exact ⟨[], 0, 11, byts_nil, by decide, fun wx A c h => (put_unsound A c B N v W wx h hB hN (by omega) hs).mono fun _ _ h => .of_none h,
      fun wx A c h => (rput_unsound A c B N v W wx h hB hN (by omega) hs).mono fun _ _ h => .of_none h⟩

theorem get_both (B : List Int) (N p W : Int) (hB : Byts B) (hN : -9223372036854775808 ≤ N ∧ N ≤ 9223372036854775807) (hp : p ≤ 9223372036854775807) (hl : (B.length : Int) ≤ 1000000) :
    ∃ v x, (0 ≤ x ∧ x ≤ 11) ∧ (∀ wx A c, Rd wx A B → Calls Try.prog 20 #[.agg #[.slice A B.length c, .int .i64 N], .int .i64 p, .int .i64 W] wx (RetNum .u16 v x wx)) ∧
      (∀ wx A c, Rd wx A B → Calls Try.prog 21 #[.agg #[.slice A B.length c, .int .i64 N], .int .i64 p, .int .i64 W] wx (RRetNum v x wx)) := by
  by_cases hs : Snd B N
  · have hpk := packs_of_snd hB hs
    obtain ⟨L, hL⟩ : ∃ L, bitsOf B N.toNat = L := ⟨_, rfl⟩
    have hLN : N = (L.length : Int) := by rw [← hL, bitsOf_length]; have := hs.1; omega
    rw [hL] at hpk
    subst hLN
    by_cases hW : W < 0 ∨ 64 < W
    · exact ⟨0, 1, by decide, fun wx A c h => get_wide A c B L p W wx h hpk (by omega) hW, fun wx A c h => rget_wide A c B L p W wx h hpk (by omega) hW⟩
    · by_cases hf : p < 0 ∨ (L.length : Int) < p ∨ (L.length : Int) - p < W
      · exact ⟨0, 10, by decide, fun wx A c h => get_far A c B L p W wx h hpk (by omega) (by omega) hp hf, fun wx A c h => rget_far A c B L p W wx h hpk (by omega) (by omega) hp hf⟩
      · obtain ⟨m, rfl⟩ := Int.eq_ofNat_of_zero_le (a := W) (by omega)
        obtain ⟨q, rfl⟩ := Int.eq_ofNat_of_zero_le (a := p) (by omega)
        exact ⟨_, 0, by decide, fun wx A c h => get_sound A c B L q m wx h hpk hl (by omega) (by omega), fun wx A c h => rget_sound A c B L q m wx h hpk hl (by omega) (by omega)⟩
  · exact ⟨0, 11, by decide, fun wx A c h => get_unsound A c B N p W wx h hB hN (by omega) hs, fun wx A c h => rget_unsound A c B N p W wx h hB hN (by omega) hs⟩

theorem cut_both (B : List Int) (N p t : Int) (hB : Byts B) (hN : -9223372036854775808 ≤ N ∧ N ≤ 9223372036854775807) (hl : (B.length : Int) ≤ 1000000) :
    ∃ B' N' x, (Byts B' ∧ B'.length ≤ 1000000) ∧ (0 ≤ x ∧ x ≤ 11) ∧ (∀ wx A c, Rd wx A B → Calls Try.prog 24 #[.agg #[.slice A B.length c, .int .i64 N], .int .i64 p, .int .i64 t] wx (RetAny .u16 B' N' x wx)) ∧
      (∀ wx A c, Rd wx A B → Calls Try.prog 25 #[.agg #[.slice A B.length c, .int .i64 N], .int .i64 p, .int .i64 t] wx (RetAny .i64 B' N' x wx)) := by
  by_cases hs : Snd B N
  · have hpk := packs_of_snd hB hs
    obtain ⟨L, hL⟩ : ∃ L, bitsOf B N.toNat = L := ⟨_, rfl⟩
    have hLN : N = (L.length : Int) := by rw [← hL, bitsOf_length]; have := hs.1; omega
    rw [hL] at hpk
    subst hLN
    by_cases hf : p < 0 ∨ t < p ∨ (L.length : Int) < t
    · exact ⟨[], 0, 10, ⟨byts_nil, by decide⟩, by decide, fun wx A c h => (cut_far A c B L p t wx h hpk (by omega) hf).mono fun _ _ h => .of_none h,
        fun wx A c h => (rcut_far A c B L p t wx h hpk (by omega) hf).mono fun _ _ h => .of_none h⟩
    · obtain ⟨q, rfl⟩ := Int.eq_ofNat_of_zero_le (a := p) (by omega)
      obtain ⟨r, rfl⟩ := Int.eq_ofNat_of_zero_le (a := t) (by omega)
      obtain ⟨B', hB'⟩ := packs_exist (sub L q (r - q))
      have hlen : B'.length ≤ 1000000 := by
        have h1 := hB'.len
        rw [sub_length (by omega)] at h1
        have := packs_len_le hpk
        omega
      exact ⟨B', _, 0, ⟨hB'.byts, hlen⟩, by decide, fun wx A c h => (cut_sound A c B L q r wx h hpk hl (by omega) (by omega)).mono fun _ _ h => .of_bits hB' h,
        fun wx A c h => (rcut_sound A c B L q r wx h hpk hl (by omega) (by omega)).mono fun _ _ h => .of_bits hB' h⟩
  · exact ⟨[], 0, 11, ⟨byts_nil, by decide⟩, by decide, fun wx A c h => (cut_unsound A c B N p t wx h hB hN (by omega) hs).mono fun _ _ h => .of_none h,
      fun wx A c h => (rcut_unsound A c B N p t wx h hB hN (by omega) hs).mono fun _ _ h => .of_none h⟩

theorem join_both (l : List BitV) (hn : l.length ≤ 1000) (hok : ∀ x ∈ l, BitV.Ok x) :
    ∃ B' N' x, Byts B' ∧ (0 ≤ x ∧ x ≤ 11) ∧ (∀ wx A c, RdBits wx A l → Calls Try.prog 22 #[.slice A l.length c] wx (RetAny .u16 B' N' x wx)) ∧
      (∀ wx A c, RdBits wx A l → Calls Try.prog 23 #[.slice A l.length c] wx (RetAny .i64 B' N' x wx)) := by
  by_cases hs : ∀ x ∈ l, Snd x.B x.N
  · obtain ⟨B', hB'⟩ := packs_exist (l.flatMap BitV.L)
    exact ⟨B', _, 0, hB'.byts, by decide, fun wx A c h => (join_sound A c l wx h hn (fun x hx => ⟨hok x hx, hs x hx⟩)).mono fun _ _ h => .of_bits hB' h,
      fun wx A c h => (rjoin_sound A c l wx h hn (fun x hx => ⟨hok x hx, hs x hx⟩)).mono fun _ _ h => .of_bits hB' h⟩
  · exact ⟨[], 0, 11, byts_nil, by decide, fun wx A c h => (join_unsound A c l wx h hn hok hs).mono fun _ _ h => .of_none h,
      fun wx A c h => (rjoin_unsound A c l wx h hn hok hs).mono fun _ _ h => .of_none h⟩

end Go.Proofs.Ytifjanlcfjajpaa
