/-
  The reference's Same; bytes as texts.
-/
import Derived.Test.YtokolgelmikfmaaProg
import Derived.Test.YtokolgelmikfmaaBase
import Derived.Test.YtokolgelmikfmaaPl4
import Derived.Deep.QuietTactic
import Derived.BigQuiet
import Derived.Laws.BytesString
import Derived.Laws.IdiomStrings
namespace Go.Proofs.Ytokolgelmikfmaa
open Go.RowKit Pl
set_option linter.unusedVariables false

def strB (B : List Int) : ByteArray := ⟨(B.map fun n => UInt8.ofNat n.toNat).toArray⟩
theorem strB_inj {B C : List Int} (hB : Byts B) (hC : Byts C) (h : strB B = strB C) : B = C := by
  have h1 : B.map (fun n => UInt8.ofNat n.toNat) = C.map (fun n => UInt8.ofNat n.toNat) := by
    have := congrArg (fun x : ByteArray => x.data.toList) h
    simpa [strB] using this
  have back : ∀ D : List Int, Byts D → (D.map (fun n => UInt8.ofNat n.toNat)).map (fun u => (u.toNat : Int)) = D := by
    intro D hD
    rw [List.map_map]
    conv => rhs; rw [← List.map_id D]
    apply List.map_congr_left
    intro x hx
    have := hD x hx
    simp only [Function.comp, UInt8.toNat_ofNat', id]
    omega
  have := congrArg (List.map fun u : UInt8 => (u.toNat : Int)) h1
  rwa [back B hB, back C hC] at this

theorem text_eq {B C : List Int} (h : strB B = strB C ↔ B = C) : ((strB B).toList == (strB C).toList) = decide (B = C) := by
  rw [ByteArray.toList_eq, ByteArray.toList_eq, Bool.eq_iff_iff, beq_iff_eq, decide_eq_true_eq, ← h]
  constructor
  · intro e
    have : (strB B).data = (strB C).data := by
      apply Array.toList_inj.1 e
    cases hb : strB B
    cases hc : strB C
    rw [hb, hc] at this
    simp_all
  · intro e; rw [e]
theorem run_text {P : Program} (w : World) (src dst e : TypeId) (A : Option Addr) (cap : Nat) (B : List Int) (hs : P.underlying src = some (.slice e)) (he : P.underlying e = some (.int .u8)) (hd : P.underlying dst = some .string)
    (hB : Byts B) (hr : Rd w A B) : (convert src dst (.slice A B.length cap)).run P w = .ok (.string (strB B)) w := by
  have back : (B.map (fun n => UInt8.ofNat n.toNat)).length = B.length := by simp
  rcases A with _ | a
  · have := hr.none_
    subst this
    rw [run_convert_bytes_string w src dst e none _ cap hs he hd]
    rfl
  · have := run_convert_bytes_back (P := P) w src dst e a cap (B.map (fun n => UInt8.ofNat n.toNat)) hs he hd (fun j hj => by
      rw [back] at hj
      obtain ⟨g, o, hA, _, hc⟩ := hr.at_ (by omega)
      injection hA with hA
      subst hA
      have e : (⟨g, o, none⟩ : Addr).add j = ⟨g, o + j, none⟩ := by unfold Addr.add; split <;> simp_all
      rw [e, hc j hj]
      have hb := hB _ (List.getElem_mem hj)
      have hn : nth B j = B[j] := by simp [nth, List.getD_eq_getElem?_getD, List.getElem?_eq_getElem hj]
      rw [hn]
      simp only [List.getElem_map, UInt8.toNat_ofNat']
      congr 3
      omega)
    rw [back] at this
    exact this

set_option maxHeartbeats 1000000 in
theorem same_any (A1 A2 : Option Addr) (c1 c2 : Nat) (B1 B2 : List Int) (N1 N2 : Int) (w : World) (hr1 : Rd w A1 B1) (hr2 : Rd w A2 B2) (hB1 : Byts B1) (hB2 : Byts B2) :
    Calls Try.prog 26 #[.agg #[.slice A1 B1.length c1, .int .i64 N1], .agg #[.slice A2 B2.length c2, .int .i64 N2]] w fun e w' => e = .returned (.bool (decide (N1 = N2) && decide (B1 = B2))) ∧ Below w.heap.size w w' := by
  have k1 := run_text (P := Try.prog) ((w.alloc (.cells #[.slice A1 B1.length c1, .int .i64 N1] 30)).alloc (.cells #[.slice A2 B2.length c2, .int .i64 N2] 30)) 28 9 5 A1 c1 B1 Try.underlying28 Try.underlying5 Try.underlying9 hB1 ((hr1.alloc _).alloc _)
  have k2 := run_text (P := Try.prog) ((w.alloc (.cells #[.slice A1 B1.length c1, .int .i64 N1] 30)).alloc (.cells #[.slice A2 B2.length c2, .int .i64 N2] 30)) 28 9 5 A2 c2 B2 Try.underlying28 Try.underlying5 Try.underlying9 hB2 ((hr2.alloc _).alloc _)
  have hcmp : (strB B1 = strB B2) ↔ B1 = B2 := ⟨strB_inj hB1 hB2, fun h => by rw [h]⟩
  have HC := Lib.hid hcmp
  obtain ⟨n1, hn1⟩ : ∃ n, B1.length = n := ⟨_, rfl⟩
  obtain ⟨n2, hn2⟩ : ∃ n, B2.length = n := ⟨_, rfl⟩
  rw [hn1, hn2] at k1 k2
  rw [hn1, hn2]
  clear hcmp hB1 hB2 hr1 hr2 hn1 hn2
  by_cases hN : N1 = N2
  · have hz : (N1 == N2) = true := by rw [beq_iff_eq]; exact hN
    have HN := Lib.hid hN
    clear hN
    go_enter Try.func26, Try.ntmps26
    go_wp2_with fail
    go_ret
    refine ⟨ret_bool ?_, (((Below.refl _ _).alloc (Nat.le_refl _) _).alloc (by simp) _)⟩
    rw [decide_eq_true HN.out, Bool.true_and]
    exact text_eq HC.out
  · have hz : (N1 == N2) = false := by rw [beq_eq_false_iff_ne]; exact hN
    have HN := Lib.hid hN
    clear hN
    go_enter Try.func26, Try.ntmps26
    go_wp2_with fail
    go_ret
    exact ⟨ret_bool (by rw [decide_eq_false HN.out, Bool.false_and]), (((Below.refl _ _).alloc (Nat.le_refl _) _).alloc (by simp) _)⟩

end Go.Proofs.Ytokolgelmikfmaa
