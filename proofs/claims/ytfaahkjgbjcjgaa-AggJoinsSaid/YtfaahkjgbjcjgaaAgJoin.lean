/-
  One and Join: the program's and the reference's: what they answer.
-/
import Derived.Test.YtfaahkjgbjcjgaaProg
import Derived.Test.YtfaahkjgbjcjgaaChecked
import Derived.Test.YtfaahkjgbjcjgaaAgPl
import Derived.Test.YtfaahkjgbjcjgaaBase
import Derived.RegionTactic
import Derived.Laws.Externs
namespace Go.Proofs.Ytfaahkjgbjcjgaa
open Go.RowKit
set_option linter.unusedVariables false

theorem run_add (x y c : Int) (hx : 0 ≤ x) (hy : 0 ≤ y) (h0 : 0 ≤ c) (h1 : c ≤ 1) (w : World) :
    (callFunc 18 #[.int .u64 x, .int .u64 y, .int .u64 c]).run Try.prog w = .ok (.value (.tuple #[.int .u64 (addLo x y c), .int .u64 (addHi x y c)])) w := by
  rw [run_callFunc_extern Try.func18 (by kernel_rfl) (by kernel_rfl) (by kernel_rfl) (e := add64Entry) (by kernel_rfl), run_add64 x y c hx hy h0 h1]
  rfl

/-- The call answers what samples come to, and a number of an error. -/
def RetAg (k : IntKind) (r : Ag) (x : Int) (w : World) (e : Ending) (w' : World) : Prop :=
  e = .returned (.tuple #[.agg #[.int .u64 r.n, .int .i64 r.ft, .int .u64 r.fv, .int .i64 r.lt, .int .u64 r.lv, .int .u64 r.mi, .int .u64 r.ma, .int .u64 r.hi, .int .u64 r.lo], .int k x]) ∧ Below w.heap.size w w'

set_option maxHeartbeats 1000000 in
theorem one_any (t v : Int) (w : World) :
    Calls Try.prog 15 #[.agg #[.int .i64 t, .int .u64 v]] w fun e w' => e = .returned (.agg #[.int .u64 1, .int .i64 t, .int .u64 v, .int .i64 t, .int .u64 v, .int .u64 v, .int .u64 v, .int .u64 0, .int .u64 v]) ∧ Below w.heap.size w w' := by
  go_enter Try.func15, Try.ntmps15
  go_wp2_with fail
  exact bodyPost_ret (v := .agg #[.int .u64 1, .int .i64 t, .int .u64 v, .int .i64 t, .int .u64 v, .int .u64 v, .int .u64 v, .int .u64 0, .int .u64 v]) (by simp [results, Try.results15, go_sem]) rfl ⟨rfl, (((Below.refl _ _).alloc (Nat.le_refl _) _).alloc (by simp) _)⟩

set_option maxHeartbeats 1000000 in
theorem rone_any (t v : Int) (w : World) :
    Calls Try.prog 16 #[.agg #[.int .i64 t, .int .u64 v]] w fun e w' => e = .returned (.agg #[.int .u64 1, .int .i64 t, .int .u64 v, .int .i64 t, .int .u64 v, .int .u64 v, .int .u64 v, .int .u64 0, .int .u64 v]) ∧ Below w.heap.size w w' := by
  go_enter Try.func16, Try.ntmps16
  go_wp2_with fail
  exact bodyPost_ret (v := .agg #[.int .u64 1, .int .i64 t, .int .u64 v, .int .i64 t, .int .u64 v, .int .u64 v, .int .u64 v, .int .u64 0, .int .u64 v]) (by simp [results, Try.results16, go_sem]) rfl ⟨rfl, (((Below.refl _ _).alloc (Nat.le_refl _) _).alloc (by simp) _)⟩

set_option maxRecDepth 100000 in
set_option maxHeartbeats 1000000 in
theorem join_left (a b : Ag) (w : World) (oa : a.Ok) (ob : b.Ok) (h1 : a.n = 0) :
    Calls Try.prog 11 #[.agg #[.int .u64 a.n, .int .i64 a.ft, .int .u64 a.fv, .int .i64 a.lt, .int .u64 a.lv, .int .u64 a.mi, .int .u64 a.ma, .int .u64 a.hi, .int .u64 a.lo], .agg #[.int .u64 b.n, .int .i64 b.ft, .int .u64 b.fv, .int .i64 b.lt, .int .u64 b.lv, .int .u64 b.mi, .int .u64 b.ma, .int .u64 b.hi, .int .u64 b.lo]] w (RetAg .u16 (joinV a b) (joinE a b) w) := by
  have HV := Lib.hid (show joinV a b = b by simp [joinV, h1])
  have HE := Lib.hid (show joinE a b = 0 by simp [joinE, h1])
  have t1 : (a.n == 0) = true := beq_iff_eq.2 h1
  clear h1
  go_enter Try.func11, Try.ntmps11
  go_wp2_with fail
  refine bodyPost_ret (v := .tuple #[.agg #[.int .u64 b.n, .int .i64 b.ft, .int .u64 b.fv, .int .i64 b.lt, .int .u64 b.lv, .int .u64 b.mi, .int .u64 b.ma, .int .u64 b.hi, .int .u64 b.lo], .int .u16 0]) (by simp [results, Try.results11, go_sem]) rfl ⟨?_, ((((Below.refl _ _).alloc (Nat.le_refl _) _).alloc (by simp) _).alloc (by simp; omega) _)⟩
  rw [HV.out, HE.out]

set_option maxRecDepth 100000 in
set_option maxHeartbeats 1000000 in
theorem join_right (a b : Ag) (w : World) (oa : a.Ok) (ob : b.Ok) (h1 : ¬ a.n = 0) (h2 : b.n = 0) :
    Calls Try.prog 11 #[.agg #[.int .u64 a.n, .int .i64 a.ft, .int .u64 a.fv, .int .i64 a.lt, .int .u64 a.lv, .int .u64 a.mi, .int .u64 a.ma, .int .u64 a.hi, .int .u64 a.lo], .agg #[.int .u64 b.n, .int .i64 b.ft, .int .u64 b.fv, .int .i64 b.lt, .int .u64 b.lv, .int .u64 b.mi, .int .u64 b.ma, .int .u64 b.hi, .int .u64 b.lo]] w (RetAg .u16 (joinV a b) (joinE a b) w) := by
  have HV := Lib.hid (show joinV a b = a by simp [joinV, h1, h2])
  have HE := Lib.hid (show joinE a b = 0 by simp [joinE, h1, h2])
  have t1 : (a.n == 0) = false := beq_eq_false_iff_ne.2 h1
  have t2 : (b.n == 0) = true := beq_iff_eq.2 h2
  clear h1 h2
  go_enter Try.func11, Try.ntmps11
  go_wp2_with fail
  refine bodyPost_ret (v := .tuple #[.agg #[.int .u64 a.n, .int .i64 a.ft, .int .u64 a.fv, .int .i64 a.lt, .int .u64 a.lv, .int .u64 a.mi, .int .u64 a.ma, .int .u64 a.hi, .int .u64 a.lo], .int .u16 0]) (by simp [results, Try.results11, go_sem]) rfl ⟨?_, ((((Below.refl _ _).alloc (Nat.le_refl _) _).alloc (by simp) _).alloc (by simp; omega) _)⟩
  rw [HV.out, HE.out]

set_option maxRecDepth 100000 in
set_option maxHeartbeats 1000000 in
theorem join_order (a b : Ag) (w : World) (oa : a.Ok) (ob : b.Ok) (h1 : ¬ a.n = 0) (h2 : ¬ b.n = 0) (h3 : b.ft ≤ a.lt) :
    Calls Try.prog 11 #[.agg #[.int .u64 a.n, .int .i64 a.ft, .int .u64 a.fv, .int .i64 a.lt, .int .u64 a.lv, .int .u64 a.mi, .int .u64 a.ma, .int .u64 a.hi, .int .u64 a.lo], .agg #[.int .u64 b.n, .int .i64 b.ft, .int .u64 b.fv, .int .i64 b.lt, .int .u64 b.lv, .int .u64 b.mi, .int .u64 b.ma, .int .u64 b.hi, .int .u64 b.lo]] w (RetAg .u16 (joinV a b) (joinE a b) w) := by
  have HV := Lib.hid (show joinV a b = Ag.zero by simp [joinV, h1, h2, h3])
  have HE := Lib.hid (show joinE a b = 240 by simp [joinE, h1, h2, h3])
  have t1 : (a.n == 0) = false := beq_eq_false_iff_ne.2 h1
  have t2 : (b.n == 0) = false := beq_eq_false_iff_ne.2 h2
  have t3 : decide (b.ft ≤ a.lt) = true := decide_eq_true h3
  clear h1 h2 h3
  go_enter Try.func11, Try.ntmps11
  go_wp2_with fail
  refine bodyPost_ret (v := .tuple #[.agg #[.int .u64 0, .int .i64 0, .int .u64 0, .int .i64 0, .int .u64 0, .int .u64 0, .int .u64 0, .int .u64 0, .int .u64 0], .int .u16 240]) (by simp [results, Try.results11, go_sem]) rfl ⟨?_, ((((Below.refl _ _).alloc (Nat.le_refl _) _).alloc (by simp) _).alloc (by simp; omega) _)⟩
  rw [HV.out, HE.out]
  rfl

set_option maxRecDepth 100000 in
set_option maxHeartbeats 1000000 in
theorem join_c00 (a b : Ag) (w : World) (oa : a.Ok) (ob : b.Ok) (h1 : ¬ a.n = 0) (h2 : ¬ b.n = 0) (h3 : ¬ b.ft ≤ a.lt) (h4 : b.mi < a.mi) (h5 : a.ma < b.ma) :
    Calls Try.prog 11 #[.agg #[.int .u64 a.n, .int .i64 a.ft, .int .u64 a.fv, .int .i64 a.lt, .int .u64 a.lv, .int .u64 a.mi, .int .u64 a.ma, .int .u64 a.hi, .int .u64 a.lo], .agg #[.int .u64 b.n, .int .i64 b.ft, .int .u64 b.fv, .int .i64 b.lt, .int .u64 b.lv, .int .u64 b.mi, .int .u64 b.ma, .int .u64 b.hi, .int .u64 b.lo]] w (RetAg .u16 (joinV a b) (joinE a b) w) := by
  have HV := Lib.hid (show joinV a b = ⟨addLo a.n b.n 0, a.ft, a.fv, b.lt, b.lv, b.mi, b.ma, addLo a.hi b.hi (addHi a.lo b.lo 0), addLo a.lo b.lo 0⟩ by
    rw [joinV, if_neg h1, if_neg h2, if_neg h3, Ag.comb, show min a.mi b.mi = b.mi from by omega, show max a.ma b.ma = b.ma from by omega])
  have HE := Lib.hid (show joinE a b = 0 by rw [joinE, if_neg h1, if_neg h2, if_neg h3])
  have t1 : (a.n == 0) = false := beq_eq_false_iff_ne.2 h1
  have t2 : (b.n == 0) = false := beq_eq_false_iff_ne.2 h2
  have t3 : decide (b.ft ≤ a.lt) = false := decide_eq_false h3
  have r1 := run_add a.lo b.lo 0 oa.lo.1 ob.lo.1 (by decide) (by decide)
  have hk := addHi_bit oa.lo ob.lo (c := 0) (by decide) (by decide)
  have r2 := run_add a.hi b.hi (addHi a.lo b.lo 0) oa.hi.1 ob.hi.1 hk.1 hk.2
  have r3 := wrap_add a.n b.n
  clear hk h1 h2 h3
  go_enter Try.func11, Try.ntmps11
  go_wp2_with fail
  go_region
  all_goals (go_wp2_with fail)
  refine bodyPost_ret (v := .tuple #[.agg #[.int .u64 (addLo a.n b.n 0), .int .i64 a.ft, .int .u64 a.fv, .int .i64 b.lt, .int .u64 b.lv, .int .u64 b.mi, .int .u64 b.ma, .int .u64 (addLo a.hi b.hi (addHi a.lo b.lo 0)), .int .u64 (addLo a.lo b.lo 0)], .int .u16 0]) (by simp [results, Try.results11, go_sem]) rfl ⟨?_, ((((Below.refl _ _).alloc (Nat.le_refl _) _).alloc (by simp) _).alloc (by simp; omega) _).drew⟩
  rw [HV.out, HE.out]

set_option maxRecDepth 100000 in
set_option maxHeartbeats 1000000 in
theorem join_c01 (a b : Ag) (w : World) (oa : a.Ok) (ob : b.Ok) (h1 : ¬ a.n = 0) (h2 : ¬ b.n = 0) (h3 : ¬ b.ft ≤ a.lt) (h4 : b.mi < a.mi) (h5 : ¬ a.ma < b.ma) :
    Calls Try.prog 11 #[.agg #[.int .u64 a.n, .int .i64 a.ft, .int .u64 a.fv, .int .i64 a.lt, .int .u64 a.lv, .int .u64 a.mi, .int .u64 a.ma, .int .u64 a.hi, .int .u64 a.lo], .agg #[.int .u64 b.n, .int .i64 b.ft, .int .u64 b.fv, .int .i64 b.lt, .int .u64 b.lv, .int .u64 b.mi, .int .u64 b.ma, .int .u64 b.hi, .int .u64 b.lo]] w (RetAg .u16 (joinV a b) (joinE a b) w) := by
  have HV := Lib.hid (show joinV a b = ⟨addLo a.n b.n 0, a.ft, a.fv, b.lt, b.lv, b.mi, a.ma, addLo a.hi b.hi (addHi a.lo b.lo 0), addLo a.lo b.lo 0⟩ by
    rw [joinV, if_neg h1, if_neg h2, if_neg h3, Ag.comb, show min a.mi b.mi = b.mi from by omega, show max a.ma b.ma = a.ma from by omega])
  have HE := Lib.hid (show joinE a b = 0 by rw [joinE, if_neg h1, if_neg h2, if_neg h3])
  have t1 : (a.n == 0) = false := beq_eq_false_iff_ne.2 h1
  have t2 : (b.n == 0) = false := beq_eq_false_iff_ne.2 h2
  have t3 : decide (b.ft ≤ a.lt) = false := decide_eq_false h3
  have r1 := run_add a.lo b.lo 0 oa.lo.1 ob.lo.1 (by decide) (by decide)
  have hk := addHi_bit oa.lo ob.lo (c := 0) (by decide) (by decide)
  have r2 := run_add a.hi b.hi (addHi a.lo b.lo 0) oa.hi.1 ob.hi.1 hk.1 hk.2
  have r3 := wrap_add a.n b.n
  clear hk h1 h2 h3
  go_enter Try.func11, Try.ntmps11
  go_wp2_with fail
  go_region
  all_goals (go_wp2_with fail)
  refine bodyPost_ret (v := .tuple #[.agg #[.int .u64 (addLo a.n b.n 0), .int .i64 a.ft, .int .u64 a.fv, .int .i64 b.lt, .int .u64 b.lv, .int .u64 b.mi, .int .u64 a.ma, .int .u64 (addLo a.hi b.hi (addHi a.lo b.lo 0)), .int .u64 (addLo a.lo b.lo 0)], .int .u16 0]) (by simp [results, Try.results11, go_sem]) rfl ⟨?_, ((((Below.refl _ _).alloc (Nat.le_refl _) _).alloc (by simp) _).alloc (by simp; omega) _).drew⟩
  rw [HV.out, HE.out]

set_option maxRecDepth 100000 in
set_option maxHeartbeats 1000000 in
theorem join_c10 (a b : Ag) (w : World) (oa : a.Ok) (ob : b.Ok) (h1 : ¬ a.n = 0) (h2 : ¬ b.n = 0) (h3 : ¬ b.ft ≤ a.lt) (h4 : ¬ b.mi < a.mi) (h5 : a.ma < b.ma) :
    Calls Try.prog 11 #[.agg #[.int .u64 a.n, .int .i64 a.ft, .int .u64 a.fv, .int .i64 a.lt, .int .u64 a.lv, .int .u64 a.mi, .int .u64 a.ma, .int .u64 a.hi, .int .u64 a.lo], .agg #[.int .u64 b.n, .int .i64 b.ft, .int .u64 b.fv, .int .i64 b.lt, .int .u64 b.lv, .int .u64 b.mi, .int .u64 b.ma, .int .u64 b.hi, .int .u64 b.lo]] w (RetAg .u16 (joinV a b) (joinE a b) w) := by
  have HV := Lib.hid (show joinV a b = ⟨addLo a.n b.n 0, a.ft, a.fv, b.lt, b.lv, a.mi, b.ma, addLo a.hi b.hi (addHi a.lo b.lo 0), addLo a.lo b.lo 0⟩ by
    rw [joinV, if_neg h1, if_neg h2, if_neg h3, Ag.comb, show min a.mi b.mi = a.mi from by omega, show max a.ma b.ma = b.ma from by omega])
  have HE := Lib.hid (show joinE a b = 0 by rw [joinE, if_neg h1, if_neg h2, if_neg h3])
  have t1 : (a.n == 0) = false := beq_eq_false_iff_ne.2 h1
  have t2 : (b.n == 0) = false := beq_eq_false_iff_ne.2 h2
  have t3 : decide (b.ft ≤ a.lt) = false := decide_eq_false h3
  have r1 := run_add a.lo b.lo 0 oa.lo.1 ob.lo.1 (by decide) (by decide)
  have hk := addHi_bit oa.lo ob.lo (c := 0) (by decide) (by decide)
  have r2 := run_add a.hi b.hi (addHi a.lo b.lo 0) oa.hi.1 ob.hi.1 hk.1 hk.2
  have r3 := wrap_add a.n b.n
  clear hk h1 h2 h3
  go_enter Try.func11, Try.ntmps11
  go_wp2_with fail
  go_region
  all_goals (go_wp2_with fail)
  refine bodyPost_ret (v := .tuple #[.agg #[.int .u64 (addLo a.n b.n 0), .int .i64 a.ft, .int .u64 a.fv, .int .i64 b.lt, .int .u64 b.lv, .int .u64 a.mi, .int .u64 b.ma, .int .u64 (addLo a.hi b.hi (addHi a.lo b.lo 0)), .int .u64 (addLo a.lo b.lo 0)], .int .u16 0]) (by simp [results, Try.results11, go_sem]) rfl ⟨?_, ((((Below.refl _ _).alloc (Nat.le_refl _) _).alloc (by simp) _).alloc (by simp; omega) _).drew⟩
  rw [HV.out, HE.out]

set_option maxRecDepth 100000 in
set_option maxHeartbeats 1000000 in
theorem join_c11 (a b : Ag) (w : World) (oa : a.Ok) (ob : b.Ok) (h1 : ¬ a.n = 0) (h2 : ¬ b.n = 0) (h3 : ¬ b.ft ≤ a.lt) (h4 : ¬ b.mi < a.mi) (h5 : ¬ a.ma < b.ma) :
    Calls Try.prog 11 #[.agg #[.int .u64 a.n, .int .i64 a.ft, .int .u64 a.fv, .int .i64 a.lt, .int .u64 a.lv, .int .u64 a.mi, .int .u64 a.ma, .int .u64 a.hi, .int .u64 a.lo], .agg #[.int .u64 b.n, .int .i64 b.ft, .int .u64 b.fv, .int .i64 b.lt, .int .u64 b.lv, .int .u64 b.mi, .int .u64 b.ma, .int .u64 b.hi, .int .u64 b.lo]] w (RetAg .u16 (joinV a b) (joinE a b) w) := by
  have HV := Lib.hid (show joinV a b = ⟨addLo a.n b.n 0, a.ft, a.fv, b.lt, b.lv, a.mi, a.ma, addLo a.hi b.hi (addHi a.lo b.lo 0), addLo a.lo b.lo 0⟩ by
    rw [joinV, if_neg h1, if_neg h2, if_neg h3, Ag.comb, show min a.mi b.mi = a.mi from by omega, show max a.ma b.ma = a.ma from by omega])
  have HE := Lib.hid (show joinE a b = 0 by rw [joinE, if_neg h1, if_neg h2, if_neg h3])
  have t1 : (a.n == 0) = false := beq_eq_false_iff_ne.2 h1
  have t2 : (b.n == 0) = false := beq_eq_false_iff_ne.2 h2
  have t3 : decide (b.ft ≤ a.lt) = false := decide_eq_false h3
  have r1 := run_add a.lo b.lo 0 oa.lo.1 ob.lo.1 (by decide) (by decide)
  have hk := addHi_bit oa.lo ob.lo (c := 0) (by decide) (by decide)
  have r2 := run_add a.hi b.hi (addHi a.lo b.lo 0) oa.hi.1 ob.hi.1 hk.1 hk.2
  have r3 := wrap_add a.n b.n
  clear hk h1 h2 h3
  go_enter Try.func11, Try.ntmps11
  go_wp2_with fail
  go_region
  all_goals (go_wp2_with fail)
  refine bodyPost_ret (v := .tuple #[.agg #[.int .u64 (addLo a.n b.n 0), .int .i64 a.ft, .int .u64 a.fv, .int .i64 b.lt, .int .u64 b.lv, .int .u64 a.mi, .int .u64 a.ma, .int .u64 (addLo a.hi b.hi (addHi a.lo b.lo 0)), .int .u64 (addLo a.lo b.lo 0)], .int .u16 0]) (by simp [results, Try.results11, go_sem]) rfl ⟨?_, ((((Below.refl _ _).alloc (Nat.le_refl _) _).alloc (by simp) _).alloc (by simp; omega) _).drew⟩
  rw [HV.out, HE.out]

theorem join_any (a b : Ag) (w : World) (oa : a.Ok) (ob : b.Ok) :
    Calls Try.prog 11 #[.agg #[.int .u64 a.n, .int .i64 a.ft, .int .u64 a.fv, .int .i64 a.lt, .int .u64 a.lv, .int .u64 a.mi, .int .u64 a.ma, .int .u64 a.hi, .int .u64 a.lo], .agg #[.int .u64 b.n, .int .i64 b.ft, .int .u64 b.fv, .int .i64 b.lt, .int .u64 b.lv, .int .u64 b.mi, .int .u64 b.ma, .int .u64 b.hi, .int .u64 b.lo]] w (RetAg .u16 (joinV a b) (joinE a b) w) := by
  by_cases h1 : a.n = 0
  · exact join_left a b w oa ob h1
  by_cases h2 : b.n = 0
  · exact join_right a b w oa ob h1 h2
  by_cases h3 : b.ft ≤ a.lt
  · exact join_order a b w oa ob h1 h2 h3
  by_cases h4 : b.mi < a.mi
  · by_cases h5 : a.ma < b.ma
    · exact join_c00 a b w oa ob h1 h2 h3 h4 h5
    · exact join_c01 a b w oa ob h1 h2 h3 h4 h5
  · by_cases h5 : a.ma < b.ma
    · exact join_c10 a b w oa ob h1 h2 h3 h4 h5
    · exact join_c11 a b w oa ob h1 h2 h3 h4 h5


set_option maxRecDepth 100000 in
set_option maxHeartbeats 1000000 in
theorem rjoin_left (a b : Ag) (w : World) (oa : a.Ok) (ob : b.Ok) (h1 : a.n = 0) :
    Calls Try.prog 12 #[.agg #[.int .u64 a.n, .int .i64 a.ft, .int .u64 a.fv, .int .i64 a.lt, .int .u64 a.lv, .int .u64 a.mi, .int .u64 a.ma, .int .u64 a.hi, .int .u64 a.lo], .agg #[.int .u64 b.n, .int .i64 b.ft, .int .u64 b.fv, .int .i64 b.lt, .int .u64 b.lv, .int .u64 b.mi, .int .u64 b.ma, .int .u64 b.hi, .int .u64 b.lo]] w (RetAg .i64 (joinV a b) (joinE a b) w) := by
  have HV := Lib.hid (show joinV a b = b by simp [joinV, h1])
  have HE := Lib.hid (show joinE a b = 0 by simp [joinE, h1])
  have t1 : (a.n == 0) = true := beq_iff_eq.2 h1
  clear h1
  go_enter Try.func12, Try.ntmps12
  go_wp2_with fail
  refine bodyPost_ret (v := .tuple #[.agg #[.int .u64 b.n, .int .i64 b.ft, .int .u64 b.fv, .int .i64 b.lt, .int .u64 b.lv, .int .u64 b.mi, .int .u64 b.ma, .int .u64 b.hi, .int .u64 b.lo], .int .i64 0]) (by simp [results, Try.results12, go_sem]) rfl ⟨?_, ((((Below.refl _ _).alloc (Nat.le_refl _) _).alloc (by simp) _).alloc (by simp; omega) _)⟩
  rw [HV.out, HE.out]

set_option maxRecDepth 100000 in
set_option maxHeartbeats 1000000 in
theorem rjoin_right (a b : Ag) (w : World) (oa : a.Ok) (ob : b.Ok) (h1 : ¬ a.n = 0) (h2 : b.n = 0) :
    Calls Try.prog 12 #[.agg #[.int .u64 a.n, .int .i64 a.ft, .int .u64 a.fv, .int .i64 a.lt, .int .u64 a.lv, .int .u64 a.mi, .int .u64 a.ma, .int .u64 a.hi, .int .u64 a.lo], .agg #[.int .u64 b.n, .int .i64 b.ft, .int .u64 b.fv, .int .i64 b.lt, .int .u64 b.lv, .int .u64 b.mi, .int .u64 b.ma, .int .u64 b.hi, .int .u64 b.lo]] w (RetAg .i64 (joinV a b) (joinE a b) w) := by
  have HV := Lib.hid (show joinV a b = a by simp [joinV, h1, h2])
  have HE := Lib.hid (show joinE a b = 0 by simp [joinE, h1, h2])
  have t1 : (a.n == 0) = false := beq_eq_false_iff_ne.2 h1
  have t2 : (b.n == 0) = true := beq_iff_eq.2 h2
  clear h1 h2
  go_enter Try.func12, Try.ntmps12
  go_wp2_with fail
  refine bodyPost_ret (v := .tuple #[.agg #[.int .u64 a.n, .int .i64 a.ft, .int .u64 a.fv, .int .i64 a.lt, .int .u64 a.lv, .int .u64 a.mi, .int .u64 a.ma, .int .u64 a.hi, .int .u64 a.lo], .int .i64 0]) (by simp [results, Try.results12, go_sem]) rfl ⟨?_, ((((Below.refl _ _).alloc (Nat.le_refl _) _).alloc (by simp) _).alloc (by simp; omega) _)⟩
  rw [HV.out, HE.out]

set_option maxRecDepth 100000 in
set_option maxHeartbeats 1000000 in
theorem rjoin_order (a b : Ag) (w : World) (oa : a.Ok) (ob : b.Ok) (h1 : ¬ a.n = 0) (h2 : ¬ b.n = 0) (h3 : b.ft ≤ a.lt) :
    Calls Try.prog 12 #[.agg #[.int .u64 a.n, .int .i64 a.ft, .int .u64 a.fv, .int .i64 a.lt, .int .u64 a.lv, .int .u64 a.mi, .int .u64 a.ma, .int .u64 a.hi, .int .u64 a.lo], .agg #[.int .u64 b.n, .int .i64 b.ft, .int .u64 b.fv, .int .i64 b.lt, .int .u64 b.lv, .int .u64 b.mi, .int .u64 b.ma, .int .u64 b.hi, .int .u64 b.lo]] w (RetAg .i64 (joinV a b) (joinE a b) w) := by
  have HV := Lib.hid (show joinV a b = Ag.zero by simp [joinV, h1, h2, h3])
  have HE := Lib.hid (show joinE a b = 240 by simp [joinE, h1, h2, h3])
  have t1 : (a.n == 0) = false := beq_eq_false_iff_ne.2 h1
  have t2 : (b.n == 0) = false := beq_eq_false_iff_ne.2 h2
  have t3 : decide (b.ft ≤ a.lt) = true := decide_eq_true h3
  clear h1 h2 h3
  go_enter Try.func12, Try.ntmps12
  go_wp2_with fail
  refine bodyPost_ret (v := .tuple #[.agg #[.int .u64 0, .int .i64 0, .int .u64 0, .int .i64 0, .int .u64 0, .int .u64 0, .int .u64 0, .int .u64 0, .int .u64 0], .int .i64 240]) (by simp [results, Try.results12, go_sem]) rfl ⟨?_, ((((Below.refl _ _).alloc (Nat.le_refl _) _).alloc (by simp) _).alloc (by simp; omega) _)⟩
  rw [HV.out, HE.out]
  rfl

set_option maxRecDepth 100000 in
set_option maxHeartbeats 1000000 in
theorem rjoin_c001 (a b : Ag) (w : World) (oa : a.Ok) (ob : b.Ok) (h1 : ¬ a.n = 0) (h2 : ¬ b.n = 0) (h3 : ¬ b.ft ≤ a.lt) (h4 : b.mi < a.mi) (h5 : a.ma < b.ma) (h6 : addHi a.lo b.lo 0 = 1) :
    Calls Try.prog 12 #[.agg #[.int .u64 a.n, .int .i64 a.ft, .int .u64 a.fv, .int .i64 a.lt, .int .u64 a.lv, .int .u64 a.mi, .int .u64 a.ma, .int .u64 a.hi, .int .u64 a.lo], .agg #[.int .u64 b.n, .int .i64 b.ft, .int .u64 b.fv, .int .i64 b.lt, .int .u64 b.lv, .int .u64 b.mi, .int .u64 b.ma, .int .u64 b.hi, .int .u64 b.lo]] w (RetAg .i64 (joinV a b) (joinE a b) w) := by
  have HV := Lib.hid (show joinV a b = ⟨addLo a.n b.n 0, a.ft, a.fv, b.lt, b.lv, b.mi, b.ma, addLo a.hi b.hi 1, addLo a.lo b.lo 0⟩ by
    rw [joinV, if_neg h1, if_neg h2, if_neg h3, Ag.comb, h6, show min a.mi b.mi = b.mi from by omega, show max a.ma b.ma = b.ma from by omega])
  have HE := Lib.hid (show joinE a b = 0 by rw [joinE, if_neg h1, if_neg h2, if_neg h3])
  have t1 : (a.n == 0) = false := beq_eq_false_iff_ne.2 h1
  have t2 : (b.n == 0) = false := beq_eq_false_iff_ne.2 h2
  have t3 : decide (b.ft ≤ a.lt) = false := decide_eq_false h3
  have r1 := wrap_add a.lo b.lo
  have r2 := wrap_add a.hi b.hi
  have r3 := wrap_add a.n b.n
  have r4 := wrap_wrap_add a.hi b.hi
  have t4 : decide (addLo a.lo b.lo 0 < a.lo) = true := decide_eq_true (carry_yes oa.lo ob.lo h6)
  clear h1 h2 h3 h6
  go_enter Try.func12, Try.ntmps12
  go_wp2_with fail
  refine bodyPost_ret (v := .tuple #[.agg #[.int .u64 (addLo a.n b.n 0), .int .i64 a.ft, .int .u64 a.fv, .int .i64 b.lt, .int .u64 b.lv, .int .u64 b.mi, .int .u64 b.ma, .int .u64 (addLo a.hi b.hi 1), .int .u64 (addLo a.lo b.lo 0)], .int .i64 0]) (by simp [results, Try.results12, go_sem]) rfl ⟨?_, (((((Below.refl _ _).alloc (Nat.le_refl _) _).alloc (by simp) _).alloc (by simp; omega) _).alloc (by simp; omega) _)⟩
  rw [HV.out, HE.out]

set_option maxRecDepth 100000 in
set_option maxHeartbeats 1000000 in
theorem rjoin_c000 (a b : Ag) (w : World) (oa : a.Ok) (ob : b.Ok) (h1 : ¬ a.n = 0) (h2 : ¬ b.n = 0) (h3 : ¬ b.ft ≤ a.lt) (h4 : b.mi < a.mi) (h5 : a.ma < b.ma) (h6 : addHi a.lo b.lo 0 = 0) :
    Calls Try.prog 12 #[.agg #[.int .u64 a.n, .int .i64 a.ft, .int .u64 a.fv, .int .i64 a.lt, .int .u64 a.lv, .int .u64 a.mi, .int .u64 a.ma, .int .u64 a.hi, .int .u64 a.lo], .agg #[.int .u64 b.n, .int .i64 b.ft, .int .u64 b.fv, .int .i64 b.lt, .int .u64 b.lv, .int .u64 b.mi, .int .u64 b.ma, .int .u64 b.hi, .int .u64 b.lo]] w (RetAg .i64 (joinV a b) (joinE a b) w) := by
  have HV := Lib.hid (show joinV a b = ⟨addLo a.n b.n 0, a.ft, a.fv, b.lt, b.lv, b.mi, b.ma, addLo a.hi b.hi 0, addLo a.lo b.lo 0⟩ by
    rw [joinV, if_neg h1, if_neg h2, if_neg h3, Ag.comb, h6, show min a.mi b.mi = b.mi from by omega, show max a.ma b.ma = b.ma from by omega])
  have HE := Lib.hid (show joinE a b = 0 by rw [joinE, if_neg h1, if_neg h2, if_neg h3])
  have t1 : (a.n == 0) = false := beq_eq_false_iff_ne.2 h1
  have t2 : (b.n == 0) = false := beq_eq_false_iff_ne.2 h2
  have t3 : decide (b.ft ≤ a.lt) = false := decide_eq_false h3
  have r1 := wrap_add a.lo b.lo
  have r2 := wrap_add a.hi b.hi
  have r3 := wrap_add a.n b.n
  have t4 : decide (addLo a.lo b.lo 0 < a.lo) = false := decide_eq_false (carry_no oa.lo ob.lo h6)
  clear h1 h2 h3 h6
  go_enter Try.func12, Try.ntmps12
  go_wp2_with fail
  refine bodyPost_ret (v := .tuple #[.agg #[.int .u64 (addLo a.n b.n 0), .int .i64 a.ft, .int .u64 a.fv, .int .i64 b.lt, .int .u64 b.lv, .int .u64 b.mi, .int .u64 b.ma, .int .u64 (addLo a.hi b.hi 0), .int .u64 (addLo a.lo b.lo 0)], .int .i64 0]) (by simp [results, Try.results12, go_sem]) rfl ⟨?_, (((((Below.refl _ _).alloc (Nat.le_refl _) _).alloc (by simp) _).alloc (by simp; omega) _).alloc (by simp; omega) _)⟩
  rw [HV.out, HE.out]

set_option maxRecDepth 100000 in
set_option maxHeartbeats 1000000 in
theorem rjoin_c011 (a b : Ag) (w : World) (oa : a.Ok) (ob : b.Ok) (h1 : ¬ a.n = 0) (h2 : ¬ b.n = 0) (h3 : ¬ b.ft ≤ a.lt) (h4 : b.mi < a.mi) (h5 : ¬ a.ma < b.ma) (h6 : addHi a.lo b.lo 0 = 1) :
    Calls Try.prog 12 #[.agg #[.int .u64 a.n, .int .i64 a.ft, .int .u64 a.fv, .int .i64 a.lt, .int .u64 a.lv, .int .u64 a.mi, .int .u64 a.ma, .int .u64 a.hi, .int .u64 a.lo], .agg #[.int .u64 b.n, .int .i64 b.ft, .int .u64 b.fv, .int .i64 b.lt, .int .u64 b.lv, .int .u64 b.mi, .int .u64 b.ma, .int .u64 b.hi, .int .u64 b.lo]] w (RetAg .i64 (joinV a b) (joinE a b) w) := by
  have HV := Lib.hid (show joinV a b = ⟨addLo a.n b.n 0, a.ft, a.fv, b.lt, b.lv, b.mi, a.ma, addLo a.hi b.hi 1, addLo a.lo b.lo 0⟩ by
    rw [joinV, if_neg h1, if_neg h2, if_neg h3, Ag.comb, h6, show min a.mi b.mi = b.mi from by omega, show max a.ma b.ma = a.ma from by omega])
  have HE := Lib.hid (show joinE a b = 0 by rw [joinE, if_neg h1, if_neg h2, if_neg h3])
  have t1 : (a.n == 0) = false := beq_eq_false_iff_ne.2 h1
  have t2 : (b.n == 0) = false := beq_eq_false_iff_ne.2 h2
  have t3 : decide (b.ft ≤ a.lt) = false := decide_eq_false h3
  have r1 := wrap_add a.lo b.lo
  have r2 := wrap_add a.hi b.hi
  have r3 := wrap_add a.n b.n
  have r4 := wrap_wrap_add a.hi b.hi
  have t4 : decide (addLo a.lo b.lo 0 < a.lo) = true := decide_eq_true (carry_yes oa.lo ob.lo h6)
  clear h1 h2 h3 h6
  go_enter Try.func12, Try.ntmps12
  go_wp2_with fail
  refine bodyPost_ret (v := .tuple #[.agg #[.int .u64 (addLo a.n b.n 0), .int .i64 a.ft, .int .u64 a.fv, .int .i64 b.lt, .int .u64 b.lv, .int .u64 b.mi, .int .u64 a.ma, .int .u64 (addLo a.hi b.hi 1), .int .u64 (addLo a.lo b.lo 0)], .int .i64 0]) (by simp [results, Try.results12, go_sem]) rfl ⟨?_, (((((Below.refl _ _).alloc (Nat.le_refl _) _).alloc (by simp) _).alloc (by simp; omega) _).alloc (by simp; omega) _)⟩
  rw [HV.out, HE.out]

set_option maxRecDepth 100000 in
set_option maxHeartbeats 1000000 in
theorem rjoin_c010 (a b : Ag) (w : World) (oa : a.Ok) (ob : b.Ok) (h1 : ¬ a.n = 0) (h2 : ¬ b.n = 0) (h3 : ¬ b.ft ≤ a.lt) (h4 : b.mi < a.mi) (h5 : ¬ a.ma < b.ma) (h6 : addHi a.lo b.lo 0 = 0) :
    Calls Try.prog 12 #[.agg #[.int .u64 a.n, .int .i64 a.ft, .int .u64 a.fv, .int .i64 a.lt, .int .u64 a.lv, .int .u64 a.mi, .int .u64 a.ma, .int .u64 a.hi, .int .u64 a.lo], .agg #[.int .u64 b.n, .int .i64 b.ft, .int .u64 b.fv, .int .i64 b.lt, .int .u64 b.lv, .int .u64 b.mi, .int .u64 b.ma, .int .u64 b.hi, .int .u64 b.lo]] w (RetAg .i64 (joinV a b) (joinE a b) w) := by
  have HV := Lib.hid (show joinV a b = ⟨addLo a.n b.n 0, a.ft, a.fv, b.lt, b.lv, b.mi, a.ma, addLo a.hi b.hi 0, addLo a.lo b.lo 0⟩ by
    rw [joinV, if_neg h1, if_neg h2, if_neg h3, Ag.comb, h6, show min a.mi b.mi = b.mi from by omega, show max a.ma b.ma = a.ma from by omega])
  have HE := Lib.hid (show joinE a b = 0 by rw [joinE, if_neg h1, if_neg h2, if_neg h3])
  have t1 : (a.n == 0) = false := beq_eq_false_iff_ne.2 h1
  have t2 : (b.n == 0) = false := beq_eq_false_iff_ne.2 h2
  have t3 : decide (b.ft ≤ a.lt) = false := decide_eq_false h3
  have r1 := wrap_add a.lo b.lo
  have r2 := wrap_add a.hi b.hi
  have r3 := wrap_add a.n b.n
  have t4 : decide (addLo a.lo b.lo 0 < a.lo) = false := decide_eq_false (carry_no oa.lo ob.lo h6)
  clear h1 h2 h3 h6
  go_enter Try.func12, Try.ntmps12
  go_wp2_with fail
  refine bodyPost_ret (v := .tuple #[.agg #[.int .u64 (addLo a.n b.n 0), .int .i64 a.ft, .int .u64 a.fv, .int .i64 b.lt, .int .u64 b.lv, .int .u64 b.mi, .int .u64 a.ma, .int .u64 (addLo a.hi b.hi 0), .int .u64 (addLo a.lo b.lo 0)], .int .i64 0]) (by simp [results, Try.results12, go_sem]) rfl ⟨?_, (((((Below.refl _ _).alloc (Nat.le_refl _) _).alloc (by simp) _).alloc (by simp; omega) _).alloc (by simp; omega) _)⟩
  rw [HV.out, HE.out]

set_option maxRecDepth 100000 in
set_option maxHeartbeats 1000000 in
theorem rjoin_c101 (a b : Ag) (w : World) (oa : a.Ok) (ob : b.Ok) (h1 : ¬ a.n = 0) (h2 : ¬ b.n = 0) (h3 : ¬ b.ft ≤ a.lt) (h4 : ¬ b.mi < a.mi) (h5 : a.ma < b.ma) (h6 : addHi a.lo b.lo 0 = 1) :
    Calls Try.prog 12 #[.agg #[.int .u64 a.n, .int .i64 a.ft, .int .u64 a.fv, .int .i64 a.lt, .int .u64 a.lv, .int .u64 a.mi, .int .u64 a.ma, .int .u64 a.hi, .int .u64 a.lo], .agg #[.int .u64 b.n, .int .i64 b.ft, .int .u64 b.fv, .int .i64 b.lt, .int .u64 b.lv, .int .u64 b.mi, .int .u64 b.ma, .int .u64 b.hi, .int .u64 b.lo]] w (RetAg .i64 (joinV a b) (joinE a b) w) := by
  have HV := Lib.hid (show joinV a b = ⟨addLo a.n b.n 0, a.ft, a.fv, b.lt, b.lv, a.mi, b.ma, addLo a.hi b.hi 1, addLo a.lo b.lo 0⟩ by
    rw [joinV, if_neg h1, if_neg h2, if_neg h3, Ag.comb, h6, show min a.mi b.mi = a.mi from by omega, show max a.ma b.ma = b.ma from by omega])
  have HE := Lib.hid (show joinE a b = 0 by rw [joinE, if_neg h1, if_neg h2, if_neg h3])
  have t1 : (a.n == 0) = false := beq_eq_false_iff_ne.2 h1
  have t2 : (b.n == 0) = false := beq_eq_false_iff_ne.2 h2
  have t3 : decide (b.ft ≤ a.lt) = false := decide_eq_false h3
  have r1 := wrap_add a.lo b.lo
  have r2 := wrap_add a.hi b.hi
  have r3 := wrap_add a.n b.n
  have r4 := wrap_wrap_add a.hi b.hi
  have t4 : decide (addLo a.lo b.lo 0 < a.lo) = true := decide_eq_true (carry_yes oa.lo ob.lo h6)
  clear h1 h2 h3 h6
  go_enter Try.func12, Try.ntmps12
  go_wp2_with fail
  refine bodyPost_ret (v := .tuple #[.agg #[.int .u64 (addLo a.n b.n 0), .int .i64 a.ft, .int .u64 a.fv, .int .i64 b.lt, .int .u64 b.lv, .int .u64 a.mi, .int .u64 b.ma, .int .u64 (addLo a.hi b.hi 1), .int .u64 (addLo a.lo b.lo 0)], .int .i64 0]) (by simp [results, Try.results12, go_sem]) rfl ⟨?_, (((((Below.refl _ _).alloc (Nat.le_refl _) _).alloc (by simp) _).alloc (by simp; omega) _).alloc (by simp; omega) _)⟩
  rw [HV.out, HE.out]

set_option maxRecDepth 100000 in
set_option maxHeartbeats 1000000 in
theorem rjoin_c100 (a b : Ag) (w : World) (oa : a.Ok) (ob : b.Ok) (h1 : ¬ a.n = 0) (h2 : ¬ b.n = 0) (h3 : ¬ b.ft ≤ a.lt) (h4 : ¬ b.mi < a.mi) (h5 : a.ma < b.ma) (h6 : addHi a.lo b.lo 0 = 0) :
    Calls Try.prog 12 #[.agg #[.int .u64 a.n, .int .i64 a.ft, .int .u64 a.fv, .int .i64 a.lt, .int .u64 a.lv, .int .u64 a.mi, .int .u64 a.ma, .int .u64 a.hi, .int .u64 a.lo], .agg #[.int .u64 b.n, .int .i64 b.ft, .int .u64 b.fv, .int .i64 b.lt, .int .u64 b.lv, .int .u64 b.mi, .int .u64 b.ma, .int .u64 b.hi, .int .u64 b.lo]] w (RetAg .i64 (joinV a b) (joinE a b) w) := by
  have HV := Lib.hid (show joinV a b = ⟨addLo a.n b.n 0, a.ft, a.fv, b.lt, b.lv, a.mi, b.ma, addLo a.hi b.hi 0, addLo a.lo b.lo 0⟩ by
    rw [joinV, if_neg h1, if_neg h2, if_neg h3, Ag.comb, h6, show min a.mi b.mi = a.mi from by omega, show max a.ma b.ma = b.ma from by omega])
  have HE := Lib.hid (show joinE a b = 0 by rw [joinE, if_neg h1, if_neg h2, if_neg h3])
  have t1 : (a.n == 0) = false := beq_eq_false_iff_ne.2 h1
  have t2 : (b.n == 0) = false := beq_eq_false_iff_ne.2 h2
  have t3 : decide (b.ft ≤ a.lt) = false := decide_eq_false h3
  have r1 := wrap_add a.lo b.lo
  have r2 := wrap_add a.hi b.hi
  have r3 := wrap_add a.n b.n
  have t4 : decide (addLo a.lo b.lo 0 < a.lo) = false := decide_eq_false (carry_no oa.lo ob.lo h6)
  clear h1 h2 h3 h6
  go_enter Try.func12, Try.ntmps12
  go_wp2_with fail
  refine bodyPost_ret (v := .tuple #[.agg #[.int .u64 (addLo a.n b.n 0), .int .i64 a.ft, .int .u64 a.fv, .int .i64 b.lt, .int .u64 b.lv, .int .u64 a.mi, .int .u64 b.ma, .int .u64 (addLo a.hi b.hi 0), .int .u64 (addLo a.lo b.lo 0)], .int .i64 0]) (by simp [results, Try.results12, go_sem]) rfl ⟨?_, (((((Below.refl _ _).alloc (Nat.le_refl _) _).alloc (by simp) _).alloc (by simp; omega) _).alloc (by simp; omega) _)⟩
  rw [HV.out, HE.out]

set_option maxRecDepth 100000 in
set_option maxHeartbeats 1000000 in
theorem rjoin_c111 (a b : Ag) (w : World) (oa : a.Ok) (ob : b.Ok) (h1 : ¬ a.n = 0) (h2 : ¬ b.n = 0) (h3 : ¬ b.ft ≤ a.lt) (h4 : ¬ b.mi < a.mi) (h5 : ¬ a.ma < b.ma) (h6 : addHi a.lo b.lo 0 = 1) :
    Calls Try.prog 12 #[.agg #[.int .u64 a.n, .int .i64 a.ft, .int .u64 a.fv, .int .i64 a.lt, .int .u64 a.lv, .int .u64 a.mi, .int .u64 a.ma, .int .u64 a.hi, .int .u64 a.lo], .agg #[.int .u64 b.n, .int .i64 b.ft, .int .u64 b.fv, .int .i64 b.lt, .int .u64 b.lv, .int .u64 b.mi, .int .u64 b.ma, .int .u64 b.hi, .int .u64 b.lo]] w (RetAg .i64 (joinV a b) (joinE a b) w) := by
  have HV := Lib.hid (show joinV a b = ⟨addLo a.n b.n 0, a.ft, a.fv, b.lt, b.lv, a.mi, a.ma, addLo a.hi b.hi 1, addLo a.lo b.lo 0⟩ by
    rw [joinV, if_neg h1, if_neg h2, if_neg h3, Ag.comb, h6, show min a.mi b.mi = a.mi from by omega, show max a.ma b.ma = a.ma from by omega])
  have HE := Lib.hid (show joinE a b = 0 by rw [joinE, if_neg h1, if_neg h2, if_neg h3])
  have t1 : (a.n == 0) = false := beq_eq_false_iff_ne.2 h1
  have t2 : (b.n == 0) = false := beq_eq_false_iff_ne.2 h2
  have t3 : decide (b.ft ≤ a.lt) = false := decide_eq_false h3
  have r1 := wrap_add a.lo b.lo
  have r2 := wrap_add a.hi b.hi
  have r3 := wrap_add a.n b.n
  have r4 := wrap_wrap_add a.hi b.hi
  have t4 : decide (addLo a.lo b.lo 0 < a.lo) = true := decide_eq_true (carry_yes oa.lo ob.lo h6)
  clear h1 h2 h3 h6
  go_enter Try.func12, Try.ntmps12
  go_wp2_with fail
  refine bodyPost_ret (v := .tuple #[.agg #[.int .u64 (addLo a.n b.n 0), .int .i64 a.ft, .int .u64 a.fv, .int .i64 b.lt, .int .u64 b.lv, .int .u64 a.mi, .int .u64 a.ma, .int .u64 (addLo a.hi b.hi 1), .int .u64 (addLo a.lo b.lo 0)], .int .i64 0]) (by simp [results, Try.results12, go_sem]) rfl ⟨?_, (((((Below.refl _ _).alloc (Nat.le_refl _) _).alloc (by simp) _).alloc (by simp; omega) _).alloc (by simp; omega) _)⟩
  rw [HV.out, HE.out]

set_option maxRecDepth 100000 in
set_option maxHeartbeats 1000000 in
theorem rjoin_c110 (a b : Ag) (w : World) (oa : a.Ok) (ob : b.Ok) (h1 : ¬ a.n = 0) (h2 : ¬ b.n = 0) (h3 : ¬ b.ft ≤ a.lt) (h4 : ¬ b.mi < a.mi) (h5 : ¬ a.ma < b.ma) (h6 : addHi a.lo b.lo 0 = 0) :
    Calls Try.prog 12 #[.agg #[.int .u64 a.n, .int .i64 a.ft, .int .u64 a.fv, .int .i64 a.lt, .int .u64 a.lv, .int .u64 a.mi, .int .u64 a.ma, .int .u64 a.hi, .int .u64 a.lo], .agg #[.int .u64 b.n, .int .i64 b.ft, .int .u64 b.fv, .int .i64 b.lt, .int .u64 b.lv, .int .u64 b.mi, .int .u64 b.ma, .int .u64 b.hi, .int .u64 b.lo]] w (RetAg .i64 (joinV a b) (joinE a b) w) := by
  have HV := Lib.hid (show joinV a b = ⟨addLo a.n b.n 0, a.ft, a.fv, b.lt, b.lv, a.mi, a.ma, addLo a.hi b.hi 0, addLo a.lo b.lo 0⟩ by
    rw [joinV, if_neg h1, if_neg h2, if_neg h3, Ag.comb, h6, show min a.mi b.mi = a.mi from by omega, show max a.ma b.ma = a.ma from by omega])
  have HE := Lib.hid (show joinE a b = 0 by rw [joinE, if_neg h1, if_neg h2, if_neg h3])
  have t1 : (a.n == 0) = false := beq_eq_false_iff_ne.2 h1
  have t2 : (b.n == 0) = false := beq_eq_false_iff_ne.2 h2
  have t3 : decide (b.ft ≤ a.lt) = false := decide_eq_false h3
  have r1 := wrap_add a.lo b.lo
  have r2 := wrap_add a.hi b.hi
  have r3 := wrap_add a.n b.n
  have t4 : decide (addLo a.lo b.lo 0 < a.lo) = false := decide_eq_false (carry_no oa.lo ob.lo h6)
  clear h1 h2 h3 h6
  go_enter Try.func12, Try.ntmps12
  go_wp2_with fail
  refine bodyPost_ret (v := .tuple #[.agg #[.int .u64 (addLo a.n b.n 0), .int .i64 a.ft, .int .u64 a.fv, .int .i64 b.lt, .int .u64 b.lv, .int .u64 a.mi, .int .u64 a.ma, .int .u64 (addLo a.hi b.hi 0), .int .u64 (addLo a.lo b.lo 0)], .int .i64 0]) (by simp [results, Try.results12, go_sem]) rfl ⟨?_, (((((Below.refl _ _).alloc (Nat.le_refl _) _).alloc (by simp) _).alloc (by simp; omega) _).alloc (by simp; omega) _)⟩
  rw [HV.out, HE.out]

theorem rjoin_any (a b : Ag) (w : World) (oa : a.Ok) (ob : b.Ok) :
    Calls Try.prog 12 #[.agg #[.int .u64 a.n, .int .i64 a.ft, .int .u64 a.fv, .int .i64 a.lt, .int .u64 a.lv, .int .u64 a.mi, .int .u64 a.ma, .int .u64 a.hi, .int .u64 a.lo], .agg #[.int .u64 b.n, .int .i64 b.ft, .int .u64 b.fv, .int .i64 b.lt, .int .u64 b.lv, .int .u64 b.mi, .int .u64 b.ma, .int .u64 b.hi, .int .u64 b.lo]] w (RetAg .i64 (joinV a b) (joinE a b) w) := by
  by_cases h1 : a.n = 0
  · exact rjoin_left a b w oa ob h1
  by_cases h2 : b.n = 0
  · exact rjoin_right a b w oa ob h1 h2
  by_cases h3 : b.ft ≤ a.lt
  · exact rjoin_order a b w oa ob h1 h2 h3
  by_cases h4 : b.mi < a.mi
  · by_cases h5 : a.ma < b.ma
    · (rcases (show addHi a.lo b.lo 0 = 1 ∨ addHi a.lo b.lo 0 = 0 by have := addHi_bit oa.lo ob.lo (c := 0) (by decide) (by decide); omega) with h6 | h6; exact rjoin_c001 a b w oa ob h1 h2 h3 h4 h5 h6; exact rjoin_c000 a b w oa ob h1 h2 h3 h4 h5 h6)
    · (rcases (show addHi a.lo b.lo 0 = 1 ∨ addHi a.lo b.lo 0 = 0 by have := addHi_bit oa.lo ob.lo (c := 0) (by decide) (by decide); omega) with h6 | h6; exact rjoin_c011 a b w oa ob h1 h2 h3 h4 h5 h6; exact rjoin_c010 a b w oa ob h1 h2 h3 h4 h5 h6)
  · by_cases h5 : a.ma < b.ma
    · (rcases (show addHi a.lo b.lo 0 = 1 ∨ addHi a.lo b.lo 0 = 0 by have := addHi_bit oa.lo ob.lo (c := 0) (by decide) (by decide); omega) with h6 | h6; exact rjoin_c101 a b w oa ob h1 h2 h3 h4 h5 h6; exact rjoin_c100 a b w oa ob h1 h2 h3 h4 h5 h6)
    · (rcases (show addHi a.lo b.lo 0 = 1 ∨ addHi a.lo b.lo 0 = 0 by have := addHi_bit oa.lo ob.lo (c := 0) (by decide) (by decide); omega) with h6 | h6; exact rjoin_c111 a b w oa ob h1 h2 h3 h4 h5 h6; exact rjoin_c110 a b w oa ob h1 h2 h3 h4 h5 h6)

end Go.Proofs.Ytfaahkjgbjcjgaa
