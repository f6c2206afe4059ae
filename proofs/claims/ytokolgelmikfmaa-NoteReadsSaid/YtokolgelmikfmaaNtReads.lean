/-
  Rows.NoteReadsSaid is proved: Decode of any bytes is what the chapter says; they stay, and are not kept. No condition.
-/
import Derived.Test.YtokolgelmikfmaaNtOpen
import Derived.Test.YtokolgelmikfmaaNtRDec
import Derived.BigRegion
namespace Go.Proofs.Ytokolgelmikfmaa
open Go.ChangeShapes Go.WideShapes Go.ChangeAt Go.RowKit
open Pl
set_option linter.unusedVariables false

theorem own_cap {w : World} {base : Nat} {e : TypeId} {size : Nat} {A : Option Addr} {n c : Nat} {xs : List Value} (h : w.ownsRow base e size (.slice A n c) n xs) : n ≤ c := by
  obtain ⟨A', c', h1, h2⟩ := own_shape h
  injection h1 with _ _ h3
  omega
theorem own_form {w : World} {base n c : Nat} {e : TypeId} {A : Option Addr} {B : List Int} (h : w.ownsRow base e 1 (.slice A n c) n (u8s B)) (hn : 0 < n) :
    ∃ g, A = some ⟨g, 0, none⟩ ∧ base ≤ g ∧ g < w.heap.size ∧ (∀ i, i < n → w.cell? ⟨g, i, none⟩ = some (.int .u8 (nth B i))) ∧ ∀ i, w.frozen? ⟨g, i, none⟩ = false := by
  obtain ⟨g, cap, hv, hb, hlt⟩ := h.form hn
  have hA : A = some ⟨g, 0, none⟩ := by injection hv
  subst hA
  refine ⟨g, rfl, hb, hlt, fun i hi => ?_, fun i => h.frozenAt i⟩
  rw [h.cellAt i (by omega)]
  have := h.1
  rw [u8s_length] at this
  exact u8s_get (by omega)

set_option maxRecDepth 100000 in
set_option maxHeartbeats 4000000 in
theorem walk_NoteReads (w : World) (A : Option Addr) (c : Nat) (B : List Int) (hr : Rd w A B) (hB : Byts B) (hc : B.length ≤ c) :
    Calls Try.prog 4 #[.slice A B.length c] w fun e w' => e = .returned (.bool true) ∧ Below w.heap.size w w' := by
  by_cases hbig : (1000 : Int) < (B.length : Int)
  · have hd' : decide (1000 < B.length) = true := by simp; omega
    clear hB hr hc
    go_enter Try.func4, Try.ntmps4
    go_wp2_with fail
    refine (known_any _).mono ?_
    rintro e w1 ⟨rfl, hb1⟩
    go_wp2_with fail
    go_ret
    exact ⟨rfl, hb1⟩
  have hd' : decide (1000 < B.length) = false := by simp; omega
  have DEC := fun A2 c2 wx (h : Rd wx A2 B) (h2 : B.length ≤ c2) => decode_any A2 c2 B hB (by omega) wx h h2
  have RDE := fun wx (h : Rd wx A B) => rdecode_any A c B hB (by omega) wx h hc
  have HB60 : Hid (Byts (if goodB B then parse B else z0).B) := Lib.hid (by
    split
    · exact (parse_ok hB).2.2.2.2.2.2.2.2.2.1
    · exact fun x hx => absurd hx (by simp [z0]))
  obtain ⟨x, hx⟩ : ∃ x, (if goodB B then parse B else z0) = x := ⟨_, rfl⟩
  have HE01 : Hid ((if goodB B then (0 : Int) else 110) = 0 ∨ (if goodB B then (0 : Int) else 110) = 110) := Lib.hid (by cases goodB B <;> simp)
  obtain ⟨E, hE⟩ : ∃ E : Int, (if goodB B then 0 else 110) = E := ⟨_, rfl⟩
  rw [hx] at HB60
  rw [hE] at HE01
  rw [hx, hE] at DEC RDE
  obtain ⟨n, hn⟩ : ∃ n, B.length = n := ⟨_, rfl⟩
  have HN := Lib.hid hn
  have HBY := Lib.hid hB
  have hnI : (n : Int) ≤ 1000 := by omega
  have SAME := fun A3 c3 A4 c4 wx (h : Rd wx A3 x.B) (h' : Rd wx A4 x.B) => rnsame_any x x HB60.out HB60.out A3 A4 c3 c4 wx h h'
  rw [(sameB_iff x x).2 rfl] at SAME
  unfold RetNote at DEC RDE
  unfold nv at DEC RDE SAME
  obtain ⟨l, hl⟩ : ∃ l, x.B.length = l := ⟨_, rfl⟩
  rw [hl] at DEC RDE SAME
  rw [hn] at hd' DEC RDE ⊢
  have HD := Lib.hid DEC
  have HR := Lib.hid RDE
  have HS := Lib.hid SAME
  clear DEC RDE SAME hB hn hx hE hl hbig HB60
  obtain ⟨i0, hi, hz0, hz1, hz2⟩ := info_parts info_u8
  go_enter Try.func4, Try.ntmps4
  go_wp2_with fail
  refine (known_any _).mono ?_
  rintro e w1 ⟨rfl, hb1⟩
  have hr1 := hr.below hb1
  have HL : Hid (n = B.length) := Lib.hid HN.out.symm
  have HH : Hid (0 + B.length ≤ 140737488355328) := Lib.hid (by rw [HN.out]; omega)
  rw [HL.out] at hd' ⊢
  have hbI : (B.length : Int) ≤ 1000 := by rw [HN.out]; exact hnI
  have hdI : decide ((1000 : Int) < (B.length : Int)) = false := by simp; omega
  go_wp2_with (at_builtin; refine wpList_append_rd _ rfl _ _ 28 rfl w1.heap.size 5 i0 (.int .u8 0) Try.underlying28 hi hz0 hz1 hz2 rfl (.slice none 0 0) 0 [] rfl (World.ownsRow_nil _ _ _ _) A c B rfl hr1 HH.out (Nat.le_refl _) ?_; intro v' w2 hown hgrow hat; rw [Nat.zero_add, List.nil_append, HN.out] at hown; obtain ⟨A2, c2, hv2, hc2⟩ := own_shape hown; subst hv2)
  have hb2 : Below w.heap.size w w2 := hb1.trans (((Below.refl w1.heap.size w1).grown hgrow (Nat.le_refl _) (fun k hk => by simp [Value.ownBlock] at hk)).mono hb1.size)
  have hsz1 : w1.heap.size ≤ w2.heap.size := hgrow.size
  have HG : Hid (∀ k, (Value.slice A2 n c2).ownBlock = some k → k < w2.heap.size) := Lib.hid (fun k hk => (hown.lt k hk).2)
  clear hbI hdI hat hgrow hr1 HH hd'
  refine (HD.out A2 c2 w2 (Rd.of_own hown) hc2).mono ?_
  rintro e w3 ⟨A3, c3, rfl, hown3, hb3⟩
  have hb3w := hb2.trans (hb3.mono hb2.size)
  have hown' := (own_kept hown hb3).alloc (.cells #[.int .u8 x.k, .int .u32 x.e, .int .u32 x.s, .int .i64 x.t, .int .u64 x.v, .int .u32 x.c, .int .u32 x.b, .int .u32 x.m, .int .u32 x.n, .bool x.z, .slice A3 l c3, .int .i64 x.N] 32)
  have hown3' := hown3.alloc (.cells #[.int .u8 x.k, .int .u32 x.e, .int .u32 x.s, .int .i64 x.t, .int .u64 x.v, .int .u32 x.c, .int .u32 x.b, .int .u32 x.m, .int .u32 x.n, .bool x.z, .slice A3 l c3, .int .i64 x.N] 32)
  have hb4 := hb3w.alloc hb3w.size (.cells #[.int .u8 x.k, .int .u32 x.e, .int .u32 x.s, .int .i64 x.t, .int .u64 x.v, .int .u32 x.c, .int .u32 x.b, .int .u32 x.m, .int .u32 x.n, .bool x.z, .slice A3 l c3, .int .i64 x.N] 32)
  have hbx := Blk.new w3 32 #[.int .u8 x.k, .int .u32 x.e, .int .u32 x.s, .int .i64 x.t, .int .u64 x.v, .int .u32 x.c, .int .u32 x.b, .int .u32 x.m, .int .u32 x.n, .bool x.z, .slice A3 l c3, .int .i64 x.N]
  have hsz3 := hb3.size
  obtain ⟨w4, hw4⟩ : ∃ w4, w3.alloc (.cells #[.int .u8 x.k, .int .u32 x.e, .int .u32 x.s, .int .i64 x.t, .int .u64 x.v, .int .u32 x.c, .int .u32 x.b, .int .u32 x.m, .int .u32 x.n, .bool x.z, .slice A3 l c3, .int .i64 x.N] 32) = w4 := ⟨_, rfl⟩
  have hsz4 : w4.heap.size = w3.heap.size + 1 := by rw [← hw4]; simp
  have k1 := run_text (P := Try.prog) (w3.alloc (.cells #[.int .u8 x.k, .int .u32 x.e, .int .u32 x.s, .int .i64 x.t, .int .u64 x.v, .int .u32 x.c, .int .u32 x.b, .int .u32 x.m, .int .u32 x.n, .bool x.z, .slice A3 l c3, .int .i64 x.N] 32)) 28 9 5 A2 c2 B Try.underlying28 Try.underlying5 Try.underlying9 HBY.out (Rd.of_own hown')
  have k2 := run_text (P := Try.prog) (w3.alloc (.cells #[.int .u8 x.k, .int .u32 x.e, .int .u32 x.s, .int .i64 x.t, .int .u64 x.v, .int .u32 x.c, .int .u32 x.b, .int .u32 x.m, .int .u32 x.n, .bool x.z, .slice A3 l c3, .int .i64 x.N] 32)) 28 9 5 A c B Try.underlying28 Try.underlying5 Try.underlying9 HBY.out (hr.below hb4)
  rw [HN.out] at k1
  obtain ⟨S, hS⟩ : ∃ S, strB B = S := ⟨_, rfl⟩
  rw [hS] at k1 k2
  rw [hw4] at hown' hown3' hb4 hbx
  have HO2 := Lib.hid hown'
  have HO3 := Lib.hid hown3'
  have HBX := Lib.hid hbx
  have HW4 := Lib.hid hw4
  have hEw : IntKind.i64.wrap E = E := IntWalk.i64_in _ (by rcases HE01.out with rfl | rfl <;> omega)
  clear hS hown hown' hown3 hown3' hbx hb3 hb2 hw4
  go_wp2_with fail
  rw [HW4.out]
  clear k1 k2
  rw [HN.out]
  go_loopw [7] (fun i wr => ∃ (k : Nat) (C : List Int), k ≤ n ∧ i = .int .i64 (k : Nat) ∧ wr.ownsRow w1.heap.size 5 1 (.slice A2 n c2) n (u8s C) ∧ Hid (wr.ownsRow w2.heap.size 5 1 (.slice A3 l c3) l (u8s x.B)) ∧ Hid (Blk wr w3.heap.size 32 #[.int .u8 x.k, .int .u32 x.e, .int .u32 x.s, .int .i64 x.t, .int .u64 x.v, .int .u32 x.c, .int .u32 x.b, .int .u32 x.m, .int .u32 x.n, .bool x.z, .slice A3 l c3, .int .i64 x.N]) ∧ Below w.heap.size w wr) (fun i _ => n - (intOf i).toNat)
  case atStart => exact ⟨0, B, Nat.zero_le _, rfl, HO2.out, HO3, HBX, hb4⟩
  case round =>
    obtain ⟨wo, rfl⟩ : ∃ wo : World, wo = wr := ⟨_, rfl⟩
    obtain ⟨k, C, hk, rfl, hown, HO, HX, hbel⟩ := hrel
    have hk' : (k : Int) ≤ n := by omega
    by_cases h0 : k = n
    · subst h0
      clear hown
      go_wp2_with fail
      refine (HR.out _ (hr.below hbel)).mono ?_
      rintro e w5 ⟨A5, c5, rfl, hown5, hb5⟩
      have HX5 := Lib.hid (HX.out.below hb5 HX.out.lt)
      have HO5 := Lib.hid (own_kept HO.out hb5)
      have hbw5 := hbel.trans (hb5.mono hbel.size)
      have x0 := cells12 HX5.out
      have hlt := HX5.out.lt
      have HN5 := Lib.hid hown5
      clear hown5 hb5 HX HO
      have hbz := hbw5.alloc hbw5.size (.cells #[.int .u8 x.k, .int .u32 x.e, .int .u32 x.s, .int .i64 x.t, .int .u64 x.v, .int .u32 x.c, .int .u32 x.b, .int .u32 x.m, .int .u32 x.n, .bool x.z, .slice A5 l c5, .int .i64 x.N] 32)
      go_wp2_with fail
      refine (HS.out A3 c3 A5 c5 _ (Rd.of_own (HO5.out.alloc _)) (Rd.of_own (HN5.out.alloc _))).mono ?_
      rintro e w6 ⟨rfl, hb6⟩
      have hbz6 := hbz.trans (hb6.mono hbz.size)
      go_wp2_with fail
      go_ret
      exact ⟨rfl, hbz6⟩
    · have h1 : decide (k < n) = true := by simp; omega
      have hkm : (k : Int) < n := by omega
      have hkm' : k < n := by omega
      obtain ⟨g, rfl, hbg, hlg, hcg, hfg⟩ := own_form hown (by omega)
      have hck := hcg k hkm'
      have hg2 : g < w2.heap.size := HG.out g (by simp [Value.ownBlock])
      have hg8 : ¬ w3.heap.size = g := by omega
      have hg9 : (Value.slice A3 l c3).ownBlock ≠ some g := fun e => by have := (HO.out.lt g e).1; omega
      have HOW := Lib.hid hown
      clear hcg h0 hown
      go_wp2_with fail
      have hst := (HOW.out.stored k (.int .u8 (bits .xor .u8 (nth C k) 255))).1
      rw [← u8s_set] at hst
      go_roundw
      case rel => exact ⟨k + 1, _, by omega, by go_num, hst, Lib.hid (own_far HO.out (p := ⟨g, k, none⟩) hg9 _), Lib.hid (HX.out.far (p := ⟨g, k, none⟩) hg8 _), hbel.setCell (p := ⟨g, k, none⟩) (by have := hb1.size; simp; omega) _⟩
      case measure => simp [intOf]; omega

set_option maxRecDepth 100000 in
theorem lifted_NoteReads (os : Os) (started : os.Started) (H : Type) (enc : TypeId × Value → H) :
    ReturnsInHanded {} Try.checked os 4 .any (Rows.noteReadsSpec.pre6 enc Try.prog Try.f4 Rows.noteReadsRow.domain false) (Rows.noteReadsSpec.post enc Try.prog Try.f4 false true false false) := by
  refine returnsInHanded_of_change (C := Try.checked) own started (by kernel_rfl) Try.func4
    (ChangeSpec.witness6 (enc := enc) (C := Try.checked) false ⟨#[], #[.slice none 0 0], []⟩ 8 (by kernel_rfl) (by kernel_rfl) (by kernel_rfl) (by kernel_rfl)) ?_
  intro W base args ds gs before hval0 hW hcnd _
  have hval : ∀ (j : Nat) t v, Try.f4.params[j]? = some t → args[j]? = some v → Value.okWide Try.prog W .any base t v := hval0
  have hW' := hW
  obtain ⟨p, q, hA0, hV, rfl, hfz, hnd⟩ := hW
  have hA : DataW.TrodAll enc Try.prog W 0 (fun _ => true) true Try.f4.params.toList args.toList ds p := hA0
  rw [Try.params4] at hA hval
  obtain ⟨v0, vs0, d0, ds0, p0, q0, hargs, rfl, rfl, h0, r0⟩ := trodAll_cons hA
  obtain ⟨rfl, rfl, rfl⟩ := trodAll_nil r0
  obtain rfl : args = #[v0] := by cases args; simp_all
  obtain ⟨rfl, rfl⟩ := trodVars_none hV
  have k0 := h0
  have lt0 : ∀ x ∈ p0, x.block < W.heap.size := by obtain ⟨m, hm⟩ := k0; exact DataW.trod_lt m _ _ _ hm
  obtain ⟨A0, c0, B0, rfl, rd0, by0, lc0⟩ := open_bytes (hval 0 28 v0 rfl rfl) h0
  clear hA0 hval0
  refine (walk_NoteReads W A0 c0 B0 rd0 by0 lc0).mono fun e W' ⟨he, bel⟩ => ?_
  subst he
  exact ⟨_, rfl, _, _, _, [], _, [], hW', trodAll_mk1 (shut_bool Try.underlying4 _), (trodAll_cons_mk (Below.trod laidOut (by kernel_rfl) (of_decide_eq_true (by kernel_rfl)) k0 bel lt0) trodAll_mk0), rfl, bel.frame _, fun h => by cases h⟩

theorem over_NoteReads : Rows.noteReadsRow.holds Try.pinned (OpenSpec.ofChange Rows.noteReadsSpec) :=
  OpenClaim.holds_of_wide 4 Try.f4 rfl rfl rfl rfl rfl rfl rfl ⟨rfl, rfl, rfl, rfl, rfl⟩ rfl rfl rfl rfl rfl (by kernel_rfl) Try.func4 (by kernel_rfl)
    (of_decide_eq_true (by kernel_rfl)) (by unfold Func.isWrapper; first | (rw [if_pos (by decide +kernel)]; kernel_rfl) | (rw [if_neg (by decide +kernel)]; exact ⟨rfl, rfl⟩))
    (fun os started H enc _ => lifted_NoteReads os started H enc)

theorem noteReads_holds : Rows.NoteReadsSaid := over_NoteReads

#print axioms noteReads_holds
end Go.Proofs.Ytokolgelmikfmaa
