/-
  How the statements' arguments are opened: what samples come to, by value; a sample by value.
-/
import Derived.Test.YtfaahkjgbjcjgaaAgOpen
namespace Go.Proofs.Ytfaahkjgbjcjgaa
open Go.ChangeShapes Go.WideShapes Go.ChangeAt Go.RowKit Go.Joins Go.Deep
set_option linter.unusedVariables false

section
variable {H : Type} {enc : TypeId × Value → H} {P : Program} {w : World} {base : Nat} {spare : Nat → Bool} {held : Bool}
/-- A field of a struct reads as its type. -/
theorem trod_field {t : TypeId} {fs : Array Field} {fuel : Nat} {cs : List Value} {x : DataW H × List MemPlace} (ht : P.underlying t = some (.struct fs)) (h : DataW.trod enc P w base spare held fuel t cs = some x) (i : Nat) (T : TypeId) (o k : Nat) (c : List Value)
    (hi : (fs[i]?).map (fun f => (f.type, f.offset)) = some (T, o)) (hk : P.cellsOf T = k) (hc : (cs.drop o).take k = c) :
    ∃ n y, DataW.trod enc P w base spare held n T c = some y := by
  obtain ⟨xs, n, _, _, _, hlen, hf⟩ := DataW.trod_struct ht h
  obtain ⟨f, hfi, hp⟩ := Option.map_eq_some_iff.1 hi
  injection hp with hT ho
  have hl : i < fs.size := (Array.getElem?_eq_some_iff.1 hfi).1
  have := (hf i f hfi).trans (List.getElem?_eq_getElem (by omega : i < xs.length))
  rw [hT, ho, hk, hc] at this
  exact ⟨n, _, this⟩
end
theorem array9 {α : Type} {cs : Array α} (h : cs.size = 9) : ∃ c0 c1 c2 c3 c4 c5 c6 c7 c8, cs = #[c0, c1, c2, c3, c4, c5, c6, c7, c8] := by
  obtain ⟨l⟩ := cs
  match l, h with
  | [c0, c1, c2, c3, c4, c5, c6, c7, c8], _ => exact ⟨c0, c1, c2, c3, c4, c5, c6, c7, c8, rfl⟩
theorem cells_agg : Try.prog.cellsOf 29 = 9 := by kernel_rfl
theorem cells_u64 : Try.prog.cellsOf 25 = 1 := by kernel_rfl
theorem cells_i64 : Try.prog.cellsOf 2 = 1 := by kernel_rfl

section
variable {H : Type} {enc : TypeId × Value → H} {W : World}
theorem read_u64 {fuel : Nat} {x : Value} {y : DataW H × List MemPlace} (h : DataW.trod enc Try.prog W 0 (fun _ => true) true fuel 25 [x] = some y) : ∃ n, x = .int .u64 n ∧ U64 n := by
  obtain ⟨n, e, _, wn⟩ := DataW.trod_int Try.underlying25 h
  simp at e
  exact ⟨n, e, range_u64 wn⟩
theorem read_i64 {fuel : Nat} {x : Value} {y : DataW H × List MemPlace} (h : DataW.trod enc Try.prog W 0 (fun _ => true) true fuel 2 [x] = some y) : ∃ n, x = .int .i64 n ∧ (-9223372036854775808 ≤ n ∧ n ≤ 9223372036854775807) := by
  obtain ⟨n, e, _, wn⟩ := DataW.trod_int Try.underlying2 h
  simp at e
  exact ⟨n, e, range_i64 wn⟩
theorem read_smp {fuel : Nat} {x z : Value} {y : DataW H × List MemPlace} (h : DataW.trod enc Try.prog W 0 (fun _ => true) true fuel 27 [x, z] = some y) : ∃ t v, x = .int .i64 t ∧ z = .int .u64 v ∧ SmpOk (t, v) := by
  obtain ⟨n0, y0, h0⟩ := trod_field Try.underlying27 h 0 2 0 1 [x] rfl cells_i64 rfl
  obtain ⟨n1, y1, h1⟩ := trod_field Try.underlying27 h 1 25 1 1 [z] rfl cells_u64 rfl
  obtain ⟨t, rfl, ht⟩ := read_i64 h0
  obtain ⟨v, rfl, hv⟩ := read_u64 h1
  exact ⟨t, v, rfl, rfl, ht, hv⟩

/-- A sample by value. -/
theorem open_smp {base : Nat} {v : Value} {d : DataW H} {p : List MemPlace}
    (hval : Value.okWide Try.prog W .any base 27 v) (h : DataW.Trod enc Try.prog W 0 (fun _ => true) true 27 v d p) :
    ∃ x : Smp, SmpOk x ∧ v = .agg #[.int .i64 x.1, .int .u64 x.2] := by
  obtain ⟨cs, rfl, hsz⟩ := okWide_struct Try.underlying27 hval
  obtain ⟨c0, c1, rfl⟩ := array2 (hsz.trans cells_smp)
  obtain ⟨fuel, hf⟩ := h
  obtain ⟨t, v, rfl, rfl, hok⟩ := read_smp (show DataW.trod enc Try.prog W 0 (fun _ => true) true fuel 27 [c0, c1] = some (d, p) from hf)
  exact ⟨(t, v), hok, rfl⟩

/-- What samples come to, by value. -/
theorem open_agg9 {base : Nat} {v : Value} {d : DataW H} {p : List MemPlace}
    (hval : Value.okWide Try.prog W .any base 29 v) (h : DataW.Trod enc Try.prog W 0 (fun _ => true) true 29 v d p) :
    ∃ a : Ag, a.Ok ∧ v = .agg #[.int .u64 a.n, .int .i64 a.ft, .int .u64 a.fv, .int .i64 a.lt, .int .u64 a.lv, .int .u64 a.mi, .int .u64 a.ma, .int .u64 a.hi, .int .u64 a.lo] := by
  obtain ⟨cs, rfl, hsz⟩ := okWide_struct Try.underlying29 hval
  obtain ⟨c0, c1, c2, c3, c4, c5, c6, c7, c8, rfl⟩ := array9 (hsz.trans cells_agg)
  obtain ⟨fuel, hf⟩ := h
  have hf' : DataW.trod enc Try.prog W 0 (fun _ => true) true fuel 29 [c0, c1, c2, c3, c4, c5, c6, c7, c8] = some (d, p) := hf
  obtain ⟨n0, y0, h0⟩ := trod_field Try.underlying29 hf' 0 25 0 1 [c0] rfl cells_u64 rfl
  obtain ⟨n1, y1, h1⟩ := trod_field Try.underlying29 hf' 1 27 1 2 [c1, c2] rfl cells_smp rfl
  obtain ⟨n2, y2, h2⟩ := trod_field Try.underlying29 hf' 2 27 3 2 [c3, c4] rfl cells_smp rfl
  obtain ⟨n3, y3, h3⟩ := trod_field Try.underlying29 hf' 3 25 5 1 [c5] rfl cells_u64 rfl
  obtain ⟨n4, y4, h4⟩ := trod_field Try.underlying29 hf' 4 25 6 1 [c6] rfl cells_u64 rfl
  obtain ⟨n5, y5, h5⟩ := trod_field Try.underlying29 hf' 5 25 7 1 [c7] rfl cells_u64 rfl
  obtain ⟨n6, y6, h6⟩ := trod_field Try.underlying29 hf' 6 25 8 1 [c8] rfl cells_u64 rfl
  obtain ⟨n, rfl, hn⟩ := read_u64 h0
  obtain ⟨ft, fv, rfl, rfl, hfo⟩ := read_smp h1
  obtain ⟨lt, lv, rfl, rfl, hlo⟩ := read_smp h2
  obtain ⟨mi, rfl, hmi⟩ := read_u64 h3
  obtain ⟨ma, rfl, hma⟩ := read_u64 h4
  obtain ⟨hi, rfl, hhi⟩ := read_u64 h5
  obtain ⟨lo, rfl, hlo'⟩ := read_u64 h6
  exact ⟨⟨n, ft, fv, lt, lv, mi, ma, hi, lo⟩, ⟨hn, hfo.2, hlo.2, hmi, hma, hhi, hlo', hfo.1, hlo.1⟩, rfl⟩
end
end Go.Proofs.Ytfaahkjgbjcjgaa
