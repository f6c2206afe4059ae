/-
  How the statements' arguments are opened: a note by value; bytes. The statements' own known.
-/
import Derived.Test.YtokolgelmikfmaaRows
import Derived.Test.YtokolgelmikfmaaNtDec
import Derived.Test.YtokolgelmikfmaaNtEnc
import Derived.Test.YtokolgelmikfmaaNtSame
import Derived.ProofKit
import Derived.OpenShut
import Derived.Lib.SmallJoins
import Derived.Deep.Slices
import Derived.Deep.Fields
namespace Go.Proofs.Ytokolgelmikfmaa
open Go.ChangeShapes Go.WideShapes Go.ChangeAt Go.RowKit Go.Joins Go.Deep
open Pl
set_option linter.unusedVariables false

theorem own : ownKnob Try.prog.godebug = none := by kernel_rfl
theorem laidOut : laidOutB Try.prog = true := by kernel_rfl
theorem cells_note : Try.prog.cellsOf 32 = 12 := by kernel_rfl
theorem cells_bits : Try.prog.cellsOf 30 = 2 := by kernel_rfl
theorem cells_smp : Try.prog.cellsOf 25 = 2 := by kernel_rfl
theorem cells_place : Try.prog.cellsOf 27 = 3 := by kernel_rfl
theorem cells_u8 : Try.prog.cellsOf 5 = 1 := by kernel_rfl
theorem cells_u32 : Try.prog.cellsOf 22 = 1 := by kernel_rfl
theorem cells_u64 : Try.prog.cellsOf 23 = 1 := by kernel_rfl
theorem cells_i64 : Try.prog.cellsOf 2 = 1 := by kernel_rfl
theorem cells_int : Try.prog.cellsOf 3 = 1 := by kernel_rfl
theorem cells_bool : Try.prog.cellsOf 4 = 1 := by kernel_rfl
theorem cells_bytes : Try.prog.cellsOf 28 = 1 := by kernel_rfl

theorem range_i64 {N : Int} (h : (Lit.int .i64 N).wf = true) : -9223372036854775808 ≤ N ∧ N ≤ 9223372036854775807 := by
  simpa [Lit.wf, IntKind.min, IntKind.max, IntKind.signed, IntKind.bits] using h
theorem range_u64 {N : Int} (h : (Lit.int .u64 N).wf = true) : U64 N := by
  have : 0 ≤ N ∧ N ≤ 18446744073709551615 := by simpa [Lit.wf, IntKind.min, IntKind.max, IntKind.signed, IntKind.bits] using h
  exact ⟨this.1, by omega⟩
theorem range_u8 {N : Int} (h : (Lit.int .u8 N).wf = true) : 0 ≤ N ∧ N < 256 := by
  have : 0 ≤ N ∧ N ≤ 255 := by simpa [Lit.wf, IntKind.min, IntKind.max, IntKind.signed, IntKind.bits] using h
  omega
theorem range_u32 {N : Int} (h : (Lit.int .u32 N).wf = true) : U32 N := by
  have : 0 ≤ N ∧ N ≤ 4294967295 := by simpa [Lit.wf, IntKind.min, IntKind.max, IntKind.signed, IntKind.bits] using h
  exact ⟨this.1, by omega⟩

section
variable {H : Type} {enc : TypeId × Value → H} {P : Program} {w : World} {base : Nat} {spare : Nat → Bool} {held : Bool}
/-- A field of a struct reads as its type. -/
theorem trod_field {t : TypeId} {fs : Array Field} {fuel : Nat} {cs : List Value} {x : DataW H × List MemPlace} (ht : P.underlying t = some (.struct fs)) (h : DataW.trod enc P w base spare held fuel t cs = some x) (i : Nat) (T : TypeId) (o k : Nat) (c : List Value)
    (hi : (fs[i]?).map (fun f => (f.type, f.offset)) = some (T, o)) (hk : P.cellsOf T = k) (hc : (cs.drop o).take k = c) :
    ∃ n y, DataW.trod enc P w base spare held n T c = some y := by
  obtain ⟨xs, n, _, _, _, hlen, hf⟩ := DataW.trod_struct ht h
  obtain ⟨f, hfi, hp⟩ := Option.map_eq_some_iff.1 hi
  injection hp with hT ho
  have hl : i < fs.size := (Array.getElem?_eq_some_iff.1 hfi).1
  have := (hf i f hfi).trans (List.getElem?_eq_getElem (by omega : i < xs.length))
  rw [hT, ho, hk, hc] at this
  exact ⟨n, _, this⟩
end
theorem array12 {α : Type} {cs : Array α} (h : cs.size = 12) : ∃ c0 c1 c2 c3 c4 c5 c6 c7 c8 c9 c10 c11, cs = #[c0, c1, c2, c3, c4, c5, c6, c7, c8, c9, c10, c11] := by
  obtain ⟨l⟩ := cs
  match l, h with
  | [c0, c1, c2, c3, c4, c5, c6, c7, c8, c9, c10, c11], _ => exact ⟨c0, c1, c2, c3, c4, c5, c6, c7, c8, c9, c10, c11, rfl⟩

section
variable {H : Type} {enc : TypeId × Value → H} {W : World}
theorem read_u64 {fuel : Nat} {x : Value} {y : DataW H × List MemPlace} (h : DataW.trod enc Try.prog W 0 (fun _ => true) true fuel 23 [x] = some y) : ∃ n, x = .int .u64 n ∧ U64 n := by
  obtain ⟨n, e, _, wn⟩ := DataW.trod_int Try.underlying23 h
  simp at e
  exact ⟨n, e, range_u64 wn⟩
theorem read_u32 {fuel : Nat} {x : Value} {y : DataW H × List MemPlace} (h : DataW.trod enc Try.prog W 0 (fun _ => true) true fuel 22 [x] = some y) : ∃ n, x = .int .u32 n ∧ U32 n := by
  obtain ⟨n, e, _, wn⟩ := DataW.trod_int Try.underlying22 h
  simp at e
  exact ⟨n, e, range_u32 wn⟩
theorem read_u8 {fuel : Nat} {x : Value} {y : DataW H × List MemPlace} (h : DataW.trod enc Try.prog W 0 (fun _ => true) true fuel 5 [x] = some y) : ∃ n, x = .int .u8 n ∧ (0 ≤ n ∧ n < 256) := by
  obtain ⟨n, e, _, wn⟩ := DataW.trod_int Try.underlying5 h
  simp at e
  exact ⟨n, e, range_u8 wn⟩
theorem read_i64 {fuel : Nat} {x : Value} {y : DataW H × List MemPlace} (h : DataW.trod enc Try.prog W 0 (fun _ => true) true fuel 2 [x] = some y) : ∃ n, x = .int .i64 n ∧ I64 n := by
  obtain ⟨n, e, _, wn⟩ := DataW.trod_int Try.underlying2 h
  simp at e
  exact ⟨n, e, range_i64 wn⟩
theorem read_int {fuel : Nat} {x : Value} {y : DataW H × List MemPlace} (h : DataW.trod enc Try.prog W 0 (fun _ => true) true fuel 3 [x] = some y) : ∃ n, x = .int .i64 n ∧ I64 n := by
  obtain ⟨n, e, _, wn⟩ := DataW.trod_int Try.underlying3 h
  simp at e
  exact ⟨n, e, range_i64 wn⟩
theorem read_bool {fuel : Nat} {x : Value} {y : DataW H × List MemPlace} (h : DataW.trod enc Try.prog W 0 (fun _ => true) true fuel 4 [x] = some y) : ∃ n, x = .bool n := by
  obtain ⟨n, e, _⟩ := DataW.trod_bool Try.underlying4 h
  simp at e
  exact ⟨n, e⟩
/-- A slice of bytes. -/
theorem read_bytes {fuel : Nat} {x : Value} {y : DataW H × List MemPlace} (h : DataW.trod enc Try.prog W 0 (fun _ => true) true fuel 28 [x] = some y) : ∃ A c B, x = .slice A (List.length B) c ∧ Rd W A B ∧ Byts B ∧ B.length ≤ c := by
  rcases open_ints Try.underlying28 Try.underlying5 cells_u8 h with ⟨hcs, _⟩ | ⟨a, len, cap, zs, hcs, _, hl, hm, hz, _, hcell, hwz⟩
  · simp at hcs
    subst hcs
    exact ⟨none, 0, [], rfl, Rd.nil _ _, (fun x hx => absurd hx (by simp)), by simp⟩
  · simp at hcs
    subst hcs
    simp only [if_true] at hz
    have hlen : (zs.take len).length = len := by rw [List.length_take]; omega
    refine ⟨some a, cap, zs.take len, by rw [hlen], ?_, fun x hx => range_u8 (hwz x (List.mem_of_mem_take hx)), by rw [hlen]; exact hl⟩
    by_cases hn : len = 0
    · left; subst hn; simp
    · right
      obtain ⟨b, off, spot⟩ := a
      have h00 := hcell 0 (by omega)
      have hspot : spot = none := by simpa [Addr.add] using World.cell?_spot h00
      subst hspot
      refine ⟨b, off, rfl, ?_, fun i hi => ?_⟩
      · have := World.block_lt_of_cell? W _ h00
        simpa [block_of_add] using this
      · rw [hlen] at hi
        have hc := hcell i (by omega)
        have e : (⟨b, off, none⟩ : Addr).add i = ⟨b, off + i, none⟩ := by unfold Addr.add; split <;> simp_all
        rw [e] at hc
        rw [hc]
        unfold nth
        rw [List.getD_eq_getElem?_getD, List.getD_eq_getElem?_getD, List.getElem?_take, if_pos hi]
theorem open_bytes {base : Nat} {v : Value} {d : DataW H} {p : List MemPlace}
    (hval : Value.okWide Try.prog W .any base 28 v) (h : DataW.Trod enc Try.prog W 0 (fun _ => true) true 28 v d p) :
    ∃ A c B, v = .slice A (List.length B) c ∧ Rd W A B ∧ Byts B ∧ B.length ≤ c := by
  obtain ⟨a0, len0, cap0, rfl⟩ := okWide_slice Try.underlying28 hval
  obtain ⟨fuel, hf⟩ := h
  exact read_bytes hf

/-- A note by value. -/
theorem open_note {base : Nat} {v : Value} {d : DataW H} {p : List MemPlace}
    (hval : Value.okWide Try.prog W .any base 32 v) (h : DataW.Trod enc Try.prog W 0 (fun _ => true) true 32 v d p) :
    ∃ (x : Nt) (A : Option Addr) (c : Nat), x.Ok ∧ v = nv x A c ∧ Rd W A x.B := by
  obtain ⟨cs, rfl, hsz⟩ := okWide_struct Try.underlying32 hval
  obtain ⟨c0, c1, c2, c3, c4, c5, c6, c7, c8, c9, c10, c11, rfl⟩ := array12 (hsz.trans cells_note)
  obtain ⟨fuel, hf⟩ := h
  have hf' : DataW.trod enc Try.prog W 0 (fun _ => true) true fuel 32 [c0, c1, c2, c3, c4, c5, c6, c7, c8, c9, c10, c11] = some (d, p) := hf
  obtain ⟨n0, y0, h0⟩ := trod_field Try.underlying32 hf' 0 5 0 1 [c0] rfl cells_u8 rfl
  obtain ⟨n1, y1, h1⟩ := trod_field Try.underlying32 hf' 1 22 1 1 [c1] rfl cells_u32 rfl
  obtain ⟨n2, y2, h2⟩ := trod_field Try.underlying32 hf' 2 22 2 1 [c2] rfl cells_u32 rfl
  obtain ⟨n3, y3, h3⟩ := trod_field Try.underlying32 hf' 3 25 3 2 [c3, c4] rfl cells_smp rfl
  obtain ⟨n4, y4, h4⟩ := trod_field Try.underlying32 hf' 4 27 5 3 [c5, c6, c7] rfl cells_place rfl
  obtain ⟨n5, y5, h5⟩ := trod_field Try.underlying32 hf' 5 22 8 1 [c8] rfl cells_u32 rfl
  obtain ⟨n6, y6, h6⟩ := trod_field Try.underlying32 hf' 6 4 9 1 [c9] rfl cells_bool rfl
  obtain ⟨n7, y7, h7⟩ := trod_field Try.underlying32 hf' 7 30 10 2 [c10, c11] rfl cells_bits rfl
  obtain ⟨m0, z0, g0⟩ := trod_field Try.underlying25 h3 0 2 0 1 [c3] rfl cells_i64 rfl
  obtain ⟨m1, z1, g1⟩ := trod_field Try.underlying25 h3 1 23 1 1 [c4] rfl cells_u64 rfl
  obtain ⟨m2, z2, g2⟩ := trod_field Try.underlying27 h4 0 22 0 1 [c5] rfl cells_u32 rfl
  obtain ⟨m3, z3, g3⟩ := trod_field Try.underlying27 h4 1 22 1 1 [c6] rfl cells_u32 rfl
  obtain ⟨m4, z4, g4⟩ := trod_field Try.underlying27 h4 2 22 2 1 [c7] rfl cells_u32 rfl
  obtain ⟨m5, z5, g5⟩ := trod_field Try.underlying30 h7 0 28 0 1 [c10] rfl cells_bytes rfl
  obtain ⟨m6, z6, g6⟩ := trod_field Try.underlying30 h7 1 3 1 1 [c11] rfl cells_int rfl
  obtain ⟨k, rfl, ok0⟩ := read_u8 h0
  obtain ⟨e, rfl, ok1⟩ := read_u32 h1
  obtain ⟨s, rfl, ok2⟩ := read_u32 h2
  obtain ⟨t, rfl, ok3⟩ := read_i64 g0
  obtain ⟨v, rfl, ok4⟩ := read_u64 g1
  obtain ⟨cc, rfl, ok5⟩ := read_u32 g2
  obtain ⟨b, rfl, ok6⟩ := read_u32 g3
  obtain ⟨m, rfl, ok7⟩ := read_u32 g4
  obtain ⟨n, rfl, ok8⟩ := read_u32 h5
  obtain ⟨z, rfl⟩ := read_bool h6
  obtain ⟨A, c, B, rfl, hrd, ok9, _⟩ := read_bytes g5
  obtain ⟨N, rfl, ok10⟩ := read_int g6
  exact ⟨⟨k, e, s, t, v, cc, b, m, n, z, B, N⟩, A, c, ⟨ok0, ok1, ok2, ok3, ok4, ok5, ok6, ok7, ok8, ok9, ok10⟩, rfl, hrd⟩
end

theorem rd_lit (w : World) (L : List Int) (t : TypeId) : Rd (w.alloc (.cells (u8s L).toArray t)) (some ⟨w.heap.size, 0, none⟩) L := by
  refine .inr ⟨w.heap.size, 0, rfl, by simp, fun i hi => ?_⟩
  rw [cell_of_row _ _ _ _ _ _ (heap_alloc_new w _)]
  have := u8s_get hi
  simpa using this

set_option maxRecDepth 100000 in
set_option maxHeartbeats 4000000 in
theorem known_any (w : World) : Calls Try.prog 8 #[] w fun e w' => e = .returned (.bool true) ∧ Below w.heap.size w w' := by
  have E1 : ∀ wx, Calls Try.prog 9 #[nv ⟨1, 5, 0, 0, 0, 0, 0, 0, 0, false, [], 0⟩ none 0] wx (RetBytes .u16 (enc ⟨1, 5, 0, 0, 0, 0, 0, 0, 0, false, [], 0⟩) 0 wx) := fun wx =>
    encode_may ⟨1, 5, 0, 0, 0, 0, 0, 0, 0, false, [], 0⟩ (by
      refine ⟨by decide, ?_, ?_, ?_, ?_, ?_, ?_, ?_, ?_, fun x hx => absurd hx (by simp), ?_⟩
      all_goals (simp only [U32, U64, I64]; decide)) (by simp) (by decide) none 0 wx (Rd.nil _ _)
  have hE : enc ⟨1, 5, 0, 0, 0, 0, 0, 0, 0, false, [], 0⟩ = [1, 0, 0, 0, 5] := by decide
  rw [hE] at E1
  have D1 : ∀ wx, Calls Try.prog 13 #[.slice none 0 0] wx (RetNote .u16 z0 110 wx) := fun wx => by
    have := decode_any none 0 [] (fun x hx => absurd hx (by simp)) (by simp) wx (Rd.nil _ _) (by simp)
    rw [bad_nil] at this
    exact this
  have HE1 := Lib.hid E1
  have HD1 := Lib.hid D1
  unfold nv at HE1
  unfold RetNote nv z0 at HD1
  unfold RetBytes at HE1
  simp only [List.length_cons, List.length_nil] at HE1 HD1
  clear E1 D1 hE
  go_enter Try.func8, Try.ntmps8
  go_wp2_with fail
  refine (HE1.out _).mono ?_
  rintro e w1 ⟨A, c, rfl, hown, hb1⟩
  have hr1 := Rd.of_own hown
  clear hown
  go_wp2_with fail
  refine (HD1.out _).mono ?_
  rintro e w2 ⟨A2, c2, rfl, hown2, hb2⟩
  have hbw := hb1.trans (hb2.mono hb1.size)
  have hr2 : Rd (w2.alloc (.cells #[.int .u8 0, .int .u32 0, .int .u32 0, .int .i64 0, .int .u64 0, .int .u32 0, .int .u32 0, .int .u32 0, .int .u32 0, .bool false, .slice A2 0 c2, .int .i64 0] 32)) A [1, 0, 0, 0, 5] := (hr1.below hb2).alloc _
  have hbz : Below w.heap.size w (w2.alloc (.cells #[.int .u8 0, .int .u32 0, .int .u32 0, .int .i64 0, .int .u64 0, .int .u32 0, .int .u32 0, .int .u32 0, .int .u32 0, .bool false, .slice A2 0 c2, .int .i64 0] 32)) := hbw.alloc hbw.size _
  have hby : Byts [1, 0, 0, 0, 5] := fun x hx => by simp at hx; omega
  obtain ⟨S, hS⟩ : ∃ S, strB [1, 0, 0, 0, 5] = S := ⟨_, rfl⟩
  have k1 : (convert 28 9 (.slice A 5 c)).run Try.prog (w2.alloc (.cells #[.int .u8 0, .int .u32 0, .int .u32 0, .int .i64 0, .int .u64 0, .int .u32 0, .int .u32 0, .int .u32 0, .int .u32 0, .bool false, .slice A2 0 c2, .int .i64 0] 32)) = .ok (.string S) (w2.alloc (.cells #[.int .u8 0, .int .u32 0, .int .u32 0, .int .i64 0, .int .u64 0, .int .u32 0, .int .u32 0, .int .u32 0, .int .u32 0, .bool false, .slice A2 0 c2, .int .i64 0] 32)) := by
    rw [← hS]
    exact run_text (P := Try.prog) _ 28 9 5 A c [1, 0, 0, 0, 5] Try.underlying28 Try.underlying5 Try.underlying9 hby hr2
  have hlit := rd_lit (w2.alloc (.cells #[.int .u8 0, .int .u32 0, .int .u32 0, .int .i64 0, .int .u64 0, .int .u32 0, .int .u32 0, .int .u32 0, .int .u32 0, .bool false, .slice A2 0 c2, .int .i64 0] 32)) [1, 0, 0, 0, 5] 5
  rw [World.size_alloc] at hlit
  have k2 : (convert 28 9 (.slice (some ⟨w2.heap.size + 1, 0, none⟩) 5 5)).run Try.prog ((w2.alloc (.cells #[.int .u8 0, .int .u32 0, .int .u32 0, .int .i64 0, .int .u64 0, .int .u32 0, .int .u32 0, .int .u32 0, .int .u32 0, .bool false, .slice A2 0 c2, .int .i64 0] 32)).alloc (.cells #[.int .u8 1, .int .u8 0, .int .u8 0, .int .u8 0, .int .u8 5] 5)) = .ok (.string S) ((w2.alloc (.cells #[.int .u8 0, .int .u32 0, .int .u32 0, .int .i64 0, .int .u64 0, .int .u32 0, .int .u32 0, .int .u32 0, .int .u32 0, .bool false, .slice A2 0 c2, .int .i64 0] 32)).alloc (.cells #[.int .u8 1, .int .u8 0, .int .u8 0, .int .u8 0, .int .u8 5] 5)) := by
    rw [← hS]
    exact run_text (P := Try.prog) _ 28 9 5 (some ⟨w2.heap.size + 1, 0, none⟩) 5 [1, 0, 0, 0, 5] Try.underlying28 Try.underlying5 Try.underlying9 hby hlit
  clear hby hown2 hb2 hr1 hbw hr2 hS hlit
  go_wp2_with fail
  go_ret
  exact ⟨rfl, hbz.alloc hbz.size _⟩
end Go.Proofs.Ytokolgelmikfmaa
