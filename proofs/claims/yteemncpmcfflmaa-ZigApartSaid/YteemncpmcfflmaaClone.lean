/-
  slices.Clone of bytes; bit.begin: a writer behind bits that are given.
-/
import Derived.Test.YteemncpmcfflmaaLay
import Derived.Lib.SliceRun
import Derived.Deep.RegionWith
namespace Go.Proofs.Yteemncpmcfflmaa
open Go.RowKit Pl
set_option linter.unusedVariables false

set_option maxHeartbeats 1000000 in
theorem clone_any (A : Option Addr) (c : Nat) (B : List Int) (w : World) (hr : Rd w A B) (hl : (B.length : Int) ≤ 1000000000) :
    Calls Try.prog 38 #[.slice A B.length c] w (RetRow 5 B w) := by
  obtain ⟨i0, hi, hz0, hz1, hz2⟩ := info_parts info_u8
  rcases A with _ | a
  · have hB := hr.none_
    subst hB
    have heq := fun wx => Lib.run_eql_slice_nil (P := Try.prog) wx 25 5 none 0 c 0 0 Try.underlying25
    go_enter Try.func38, Try.ntmps38
    go_wp2
    go_ret
    exact ⟨_, _, rfl, World.ownsRow_nil _ _ _ _, Below.refl _ _⟩
  · have heq := fun wx => Lib.run_eql_slice_nil (P := Try.prog) wx 25 5 (some a) B.length c 0 0 Try.underlying25
    go_enter Try.func38, Try.ntmps38
    go_wp2_with (at_builtin; refine wpList_append_rd _ rfl _ _ 25 rfl w.heap.size 5 i0 (.int .u8 0) Try.underlying25 hi hz0 hz1 hz2 rfl (.slice (some ⟨w.heap.size, 0, none⟩) 0 0) 0 [] rfl (World.ownsRow_lit w #[] 0 (Nat.le_refl _) (by decide) rfl) (some a) c B rfl (hr.alloc _) (by omega) (by simp) ?_; intro v' w1 hown1 hgrow hat)
    go_ret
    rw [Nat.zero_add, List.nil_append] at hown1
    obtain ⟨A', c', rfl, _⟩ := own_shape hown1
    refine ⟨_, _, rfl, hown1, ((Below.refl _ _).alloc (Nat.le_refl _) _).grown hgrow (by simp) (fun k hk => by simp [Value.ownBlock] at hk; omega)⟩

/-- The call answers a writer that holds the bits L. -/
def RetWr (L : List Bool) (w : World) (e : Ending) (w' : World) : Prop :=
  ∃ gw, e = .returned (.pointer (some ⟨gw, 0, none⟩)) ∧ Wr w' w.heap.size gw L ∧ Below w.heap.size w w'

set_option maxHeartbeats 1000000 in
theorem begin_any (A : Option Addr) (c : Nat) (B : List Int) (L : List Bool) (w : World) (hr : Rd w A B) (hp : Packs B L) (hl : (B.length : Int) ≤ 1000000000) :
    Calls Try.prog 34 #[.agg #[.slice A B.length c, .int .i64 (L.length : Int)]] w (RetWr L w) := by
  have HP := Lib.hid hp
  clear hp
  go_enter Try.func34, Try.ntmps34
  go_wp2_with fail
  go_region_with (go_at_call 38; refine (clone_any A c B _ ?_ hl).mono ?_; (exact (hr.alloc _)); rintro e w1 ⟨A1, c1, rfl, hown1, hbel1⟩; have hc1 := hbel1.cell (p := ⟨w.heap.size, 1, none⟩) (by simp))
  all_goals
    go_wp2
    go_ret
    have hsz := hbel1.size
    simp at hsz
    exact ⟨_, rfl, ⟨A1, _, c1, B, Blk.new _ _ _, by omega, (own_base hown1 (by simp)).alloc _, HP.out⟩,
      ((((Below.refl _ _).alloc (Nat.le_refl _) _).drew.trans (hbel1.mono (by simp))).alloc (by omega) _)⟩

end Go.Proofs.Yteemncpmcfflmaa
