/-
  Rows.AggAllSaid is proved: for every list of samples Of is what the chapter says, and they stay. No condition.
-/
import Derived.Test.YtfaahkjgbjcjgaaAgLaw
import Derived.Test.YtfaahkjgbjcjgaaAgROf
import Derived.Maps.AppendAt
import Derived.IntWalk
namespace Go.Proofs.Ytfaahkjgbjcjgaa
open Go.ChangeShapes Go.WideShapes Go.ChangeAt Go.RowKit
set_option linter.unusedVariables false

section
variable {P : Program} (w : World)
theorem run_append_rds (base : Nat) (t ty e : TypeId) (i : TypeInfo) (z : Value) (ht : P.underlying t = some (.slice e)) (hi : P.info? e = some i) (hz : i.zero = some z)
    (hsize : i.size = 2) (hby : i.bytes = 16) (hzs : z.cells.size = 2)
    (v : Value) (n : Nat) (xs : List Value) (hown : w.ownsRow base e 2 v n xs) (h0 : v = .slice none 0 0)
    (A : Option Addr) (c : Nat) (C : List Smp) (hr : RdS w A C) (h63 : n + C.length ≤ 1000000) (hbase : base ≤ w.heap.size) :
    ∃ v' w', (Builtin.append_ #[t, t] ty #[v, .slice A C.length c]).run P w = .ok v' w' ∧ w'.ownsRow base e 2 v' (n + C.length) (xs ++ smpCells C) ∧ w.grownBy w' v.ownBlock ∧
      (v'.ownBlock = v.ownBlock ∨ v'.ownBlock = some w.heap.size) := by
  have hm : n + C.length ≤ maxLen := by unfold maxLen; omega
  have l1 : (smpCells C).length = C.length * 2 := smpCells_length C
  rcases A with _ | ad
  · have hC : C = [] := by
      rcases hr with h | ⟨g, o, h, _⟩
      · exact h
      · cases h
    subst hC
    refine ⟨v, w, ?_, by simpa [smpCells] using hown, World.grownBy.refl w _, .inl rfl⟩
    subst h0
    simp [Builtin.append_, run_underlying ht, sizeOf, typeInfo, hi, Builtin.lenOf, Builtin.firstCells]
  · have hcells : ∀ j u, (smpCells C)[j]? = some u → w.cell? (ad.add j) = some u := by
      intro j u hu
      have hj : j < C.length * 2 := by
        rcases Nat.lt_or_ge j (C.length * 2) with h | h
        · exact h
        · rw [List.getElem?_eq_none (by rw [l1]; exact h)] at hu; cases hu
      obtain ⟨x, hx⟩ : ∃ x, C[j / 2]? = some x := ⟨C[j / 2]'(by omega), List.getElem?_eq_getElem (by omega)⟩
      obtain ⟨g, o, hA, _, h1, h2⟩ := hr.at_ hx
      injection hA with hA
      subst hA
      have hg := smpCells_get hx
      have e : (⟨g, o, none⟩ : Addr).add j = ⟨g, o + j, none⟩ := by unfold Addr.add; split <;> simp_all
      rw [e]
      by_cases hj2 : j % 2 = 0
      · have ej : j / 2 * 2 = j := by omega
        rw [ej] at hg h1
        rw [h1, ← hg.1, hu]
      · have ej : j / 2 * 2 + 1 = j := by omega
        rw [Nat.add_assoc, ej] at h2
        rw [ej] at hg
        rw [h2, ← hg.2, hu]
    obtain ⟨v', w', hrun, h2, h3, _, h5⟩ := run_append_own_at (P := P) w base t ty e i z 2 16 ht hi hz hsize hby hzs (by omega) v n xs hown ad C.length c (smpCells C) l1 hcells smpCells_one hm (by omega) hbase
    exact ⟨v', w', hrun, h2, h3, h5⟩

theorem wpList_append_rds {ops : Array Oper} {rest : List Oper} {o : Oper} {a : Act} {Q : Exit → Act → World → Prop} (hgd : o.guard = none) (s x : Operand) (t : TypeId)
    (ho : o.op = .call { callee := .builtin .append, args := #[s, x], argTypes := #[t, t] })
    (base : Nat) (e : TypeId) (i : TypeInfo) (z : Value) (ht : P.underlying t = some (.slice e)) (hi : P.info? e = some i) (hz : i.zero = some z)
    (hsize : i.size = 2) (hby : i.bytes = 16) (hzs : z.cells.size = 2)
    (v : Value) (n : Nat) (xs : List Value) (hs : a.eval s = v) (hown : w.ownsRow base e 2 v n xs) (h0 : v = .slice none 0 0)
    (A : Option Addr) (c : Nat) (C : List Smp) (hx : a.eval x = .slice A C.length c) (hr : RdS w A C) (h63 : n + C.length ≤ 1000000) (hbase : base ≤ w.heap.size)
    (h : ∀ v' w', w'.ownsRow base e 2 v' (n + C.length) (xs ++ smpCells C) → w.grownBy w' v.ownBlock → (v'.ownBlock = v.ownBlock ∨ v'.ownBlock = some w.heap.size) → wpList P ops Q rest (a.put o.dst v') w') : wpList P ops Q (o :: rest) a w :=
  wpList_plain hgd fun K hK => by
    obtain ⟨v', w', hrun, h2, h3, h4⟩ := run_append_rds (P := P) w base t o.type e i z ht hi hz hsize hby hzs v n xs hown h0 A c C hr h63 hbase
    unfold Oper.wp execOp
    simp only [ho, resolve, invoke, builtin, Sem.run_bind, Sem.run_pure, Result.andThen_ok, List.map_toArray, List.map_cons, List.map_nil, hs, hx, hrun]
    exact hK _ _ (h v' w' h2 h3 h4)
end

set_option maxRecDepth 100000 in
set_option maxHeartbeats 4000000 in
theorem walk_AggAll (w : World) (A : Option Addr) (c : Nat) (l : List Smp) (hr : RdS w A l) (hf : ∀ s ∈ l, SmpOk s) (hm : l.length ≤ maxLen) :
    Calls Try.prog 5 #[.slice A l.length c] w fun e w' => e = .returned (.bool true) ∧ Below w.heap.size w w' := by
  by_cases hbig : (60 : Int) < (l.length : Int)
  · have hd' : decide (60 < l.length) = true := by simp; omega
    clear hm hf hr
    go_enter Try.func5, Try.ntmps5
    go_wp2_with fail
    refine (known_any _).mono ?_
    rintro e w1 ⟨rfl, hb1⟩
    go_wp2_with fail
    go_ret
    exact ⟨rfl, hb1⟩
  obtain ⟨i0, hi, hz0, hz1, hzb⟩ := info_parts info_smp
  obtain ⟨r, hrr⟩ : ∃ r, (ofR l).1 = r := ⟨_, rfl⟩
  obtain ⟨E, hE⟩ : ∃ E, (ofR l).2 = E := ⟨_, rfl⟩
  have hE2 := (ofR_ok hf).2
  rw [hE] at hE2
  have hO := fun (A' : Option Addr) (c' : Nat) wx h => of_any A' c' l wx h (by omega) hf
  have hRO := fun (A' : Option Addr) (c' : Nat) wx h => rof_any A' c' l wx h (by omega) hf
  rw [hrr, hE] at hO hRO
  have hd' : decide (60 < l.length) = false := by simp; omega
  have hl60 : l.length ≤ 60 := by omega
  have hAP := fun (ops : Array Oper) (rest : List Oper) (o : Oper) (a : Act) (Q : Exit → Act → World → Prop) wx (hgd : o.guard = none) (s x : Operand)
    (ho : o.op = .call { callee := .builtin .append, args := #[s, x], argTypes := #[22, 22] }) (hs : a.eval s = .slice none 0 0) (hx : a.eval x = .slice A l.length c) (hrx : RdS wx A l)
    (h : ∀ v' w', w'.ownsRow wx.heap.size 27 2 v' (0 + l.length) ([] ++ smpCells l) → wx.grownBy w' none → (v'.ownBlock = none ∨ v'.ownBlock = some wx.heap.size) → wpList Try.prog ops Q rest (a.put o.dst v') w') =>
    wpList_append_rds wx hgd s x 22 ho wx.heap.size 27 i0 _ Try.underlying22 hi hz0 hz1 hzb rfl (.slice none 0 0) 0 [] hs (World.ownsRow_nil _ _ _ _) rfl A c l hx hrx (by omega) (Nat.le_refl _) h
  obtain ⟨n, hn⟩ : ∃ n, l.length = n := ⟨_, rfl⟩
  rw [hn] at hd' hO hRO hl60 hAP
  rw [hn]
  have HO := Lib.hid hO
  have HRO := Lib.hid hRO
  have HAP := Lib.hid hAP
  have HN := Lib.hid hn
  have HE2 := Lib.hid hE2
  clear hf hm hbig hn hO hRO hAP hrr hE hE2 hi hz0 hz1 hzb
  go_enter Try.func5, Try.ntmps5
  go_wp2_with fail
  refine (known_any _).mono ?_
  rintro e w1 ⟨rfl, hbw1⟩
  have hr1 := hr.below hbw1
  go_wp2_with (at_builtin; refine HAP.out _ _ _ _ _ _ rfl _ _ rfl rfl rfl hr1 ?_; intro v' w2 hown2 hgrow hat; have hb2 : Below w1.heap.size w1 w2 := (Below.refl _ _).grown hgrow (Nat.le_refl _) (fun k hk => by cases hk); obtain ⟨A2, c2, hv2, hle2⟩ := own_shape hown2; rw [hv2, Nat.zero_add, List.nil_append] at hown2; rw [hv2, Nat.zero_add]; clear hv2 hat hgrow)
  have hbw2 := hbw1.trans (hb2.mono hbw1.size)
  have hr2 := hr1.below hb2
  have ho2 : RdS w2 A2 l := RdS.of_own hown2
  clear hb2 hown2 hr1
  refine (HO.out _ _ _ ho2).mono ?_
  rintro e w3 ⟨rfl, hb3⟩
  have hbw3 := hbw2.trans (hb3.mono hbw2.size)
  have hr3 := (hr2.below hb3).alloc (.cells #[.int .u64 r.n, .int .i64 r.ft, .int .u64 r.fv, .int .i64 r.lt, .int .u64 r.lv, .int .u64 r.mi, .int .u64 r.ma, .int .u64 r.hi, .int .u64 r.lo] 29)
  have ho3 := (ho2.below hb3).alloc (.cells #[.int .u64 r.n, .int .i64 r.ft, .int .u64 r.fv, .int .i64 r.lt, .int .u64 r.lv, .int .u64 r.mi, .int .u64 r.ma, .int .u64 r.hi, .int .u64 r.lo] 29)
  have HT := Lib.hid (agBlk (w := w3) (t := 29) (cs := #[.int .u64 r.n, .int .i64 r.ft, .int .u64 r.fv, .int .i64 r.lt, .int .u64 r.lv, .int .u64 r.mi, .int .u64 r.ma, .int .u64 r.hi, .int .u64 r.lo]))
  have hbz3 := hbw3.alloc hbw3.size (.cells #[.int .u64 r.n, .int .i64 r.ft, .int .u64 r.fv, .int .i64 r.lt, .int .u64 r.lv, .int .u64 r.mi, .int .u64 r.ma, .int .u64 r.hi, .int .u64 r.lo] 29)
  clear hb3 hr2 ho2 hle2
  go_wp2_with fail
  refine (HRO.out _ _ _ hr3).mono ?_
  rintro e w4 ⟨rfl, hb4⟩
  have hbw4 := hbz3.trans (hb4.mono hbz3.size)
  have hr4 := (hr3.below hb4).alloc (.cells #[.int .u64 r.n, .int .i64 r.ft, .int .u64 r.fv, .int .i64 r.lt, .int .u64 r.lv, .int .u64 r.mi, .int .u64 r.ma, .int .u64 r.hi, .int .u64 r.lo] 29)
  have ho4 := (ho3.below hb4).alloc (.cells #[.int .u64 r.n, .int .i64 r.ft, .int .u64 r.fv, .int .i64 r.lt, .int .u64 r.lv, .int .u64 r.mi, .int .u64 r.ma, .int .u64 r.hi, .int .u64 r.lo] 29)
  replace HT := Lib.hid ((HT.out.below hb4 HT.out.lt).alloc (.cells #[.int .u64 r.n, .int .i64 r.ft, .int .u64 r.fv, .int .i64 r.lt, .int .u64 r.lv, .int .u64 r.mi, .int .u64 r.ma, .int .u64 r.hi, .int .u64 r.lo] 29))
  have HU := Lib.hid (agBlk (w := w4) (t := 29) (cs := #[.int .u64 r.n, .int .i64 r.ft, .int .u64 r.fv, .int .i64 r.lt, .int .u64 r.lv, .int .u64 r.mi, .int .u64 r.ma, .int .u64 r.hi, .int .u64 r.lo]))
  have hbz4 := hbw4.alloc hbw4.size (.cells #[.int .u64 r.n, .int .i64 r.ft, .int .u64 r.fv, .int .i64 r.lt, .int .u64 r.lv, .int .u64 r.mi, .int .u64 r.ma, .int .u64 r.hi, .int .u64 r.lo] 29)
  clear hb4 hr3 ho3
  go_wp2_with fail
  go_loopw [8] (fun i wr => ∃ (k : Nat), k ≤ n ∧ i = .int .i64 k ∧ Hid (Blk wr w3.heap.size 29 #[.int .u64 r.n, .int .i64 r.ft, .int .u64 r.fv, .int .i64 r.lt, .int .u64 r.lv, .int .u64 r.mi, .int .u64 r.ma, .int .u64 r.hi, .int .u64 r.lo]) ∧ Hid (Blk wr w4.heap.size 29 #[.int .u64 r.n, .int .i64 r.ft, .int .u64 r.fv, .int .i64 r.lt, .int .u64 r.lv, .int .u64 r.mi, .int .u64 r.ma, .int .u64 r.hi, .int .u64 r.lo]) ∧ RdS wr A l ∧ RdS wr A2 l ∧ Below w.heap.size w wr) (fun i _ => n - (intOf i).toNat)
  case atStart => exact ⟨0, Nat.zero_le _, rfl, HT, HU, hr4, ho4, hbz4⟩
  case round =>
    obtain ⟨k, hk, rfl, HT, HU, hr5, ho5, hbel⟩ := hrel
    have hk' : (k : Int) ≤ n := by omega
    by_cases h0 : k = n
    · subst h0
      have c0 := HT.out.cell 0; have c1 := HT.out.cell 1; have c2 := HT.out.cell 2; have c3 := HT.out.cell 3; have c4 := HT.out.cell 4; have c5 := HT.out.cell 5; have c6 := HT.out.cell 6; have c7 := HT.out.cell 7; have c8 := HT.out.cell 8
      have d0 := HU.out.cell 0; have d1 := HU.out.cell 1; have d2 := HU.out.cell 2; have d3 := HU.out.cell 3; have d4 := HU.out.cell 4; have d5 := HU.out.cell 5; have d6 := HU.out.cell 6; have d7 := HU.out.cell 7; have d8 := HU.out.cell 8
      rcases HE2.out with rfl | rfl
      all_goals
        go_wp2_with fail
        go_ret
        exact ⟨rfl, hbel⟩
    · have hlt : k < n := by omega
      have hltI : (k : Int) < (n : Int) := by omega
      have hk0 : (0 : Int) ≤ (k : Int) := by omega
      have hlt2 : decide (k < n) = true := decide_eq_true hlt
      obtain ⟨x, hx⟩ : ∃ x, l[k]? = some x := ⟨l[k]'(by rw [HN.out]; exact hlt), List.getElem?_eq_getElem (by rw [HN.out]; exact hlt)⟩
      obtain ⟨t, v⟩ := x
      obtain ⟨g, o, rfl, hg, e0, e1⟩ := hr5.at_ hx
      obtain ⟨g2, o2, rfl, hg2, e2, e3⟩ := ho5.at_ hx
      clear hx h0
      go_wp2_with fail
      go_quiet (fail)
      go_wp2_with fail
      go_roundw
      case rel => exact ⟨k + 1, by omega, by go_num, HT, HU, hr5, ho5, below_drewN hbel _⟩
      case measure => simp [intOf]; omega

set_option maxRecDepth 100000 in
theorem lifted_AggAll (os : Os) (started : os.Started) (H : Type) (enc : TypeId × Value → H) :
    ReturnsInHanded {} Try.checked os 5 .any (Rows.aggAllSpec.pre6 enc Try.prog Try.f5 Rows.aggAllRow.domain false) (Rows.aggAllSpec.post enc Try.prog Try.f5 false true false false) := by
  refine returnsInHanded_of_change (C := Try.checked) own started (by kernel_rfl) Try.func5
    (ChangeSpec.witness6 (enc := enc) (C := Try.checked) false ⟨#[], #[.slice none 0 0], []⟩ 8 (by kernel_rfl) (by kernel_rfl) (by kernel_rfl) (by kernel_rfl)) ?_
  intro W base args ds gs before hval0 hW hcnd _
  have hval : ∀ (j : Nat) t v, Try.f5.params[j]? = some t → args[j]? = some v → Value.okWide Try.prog W .any base t v := hval0
  have hW' := hW
  obtain ⟨p, q, hA0, hV, rfl, hfz, hnd⟩ := hW
  have hA : DataW.TrodAll enc Try.prog W 0 (fun _ => true) true Try.f5.params.toList args.toList ds p := hA0
  rw [Try.params5] at hA hval
  obtain ⟨v0, vs0, d0, ds0, p0, q0, hargs, rfl, rfl, h0, r0⟩ := trodAll_cons hA
  obtain ⟨rfl, rfl, rfl⟩ := trodAll_nil r0
  obtain rfl : args = #[v0] := by cases args; simp_all
  obtain ⟨rfl, rfl⟩ := trodVars_none hV
  have k0 := h0
  have lt0 : ∀ x ∈ p0, x.block < W.heap.size := by obtain ⟨m, hm⟩ := k0; exact DataW.trod_lt m _ _ _ hm
  obtain ⟨A0, c0, l0, rfl, rd0, fi0, le0⟩ := open_samples (hval 0 22 v0 rfl rfl) h0
  clear hA0 hval0
  refine (walk_AggAll W A0 c0 l0 rd0 fi0 le0).mono fun e W' ⟨he, bel⟩ => ?_
  subst he
  exact ⟨_, rfl, _, _, _, [], _, [], hW', trodAll_mk1 (shut_bool Try.underlying4 _), (trodAll_cons_mk (Below.trod laidOut (by kernel_rfl) (of_decide_eq_true (by kernel_rfl)) k0 bel lt0) trodAll_mk0), rfl, bel.frame _, fun h => by cases h⟩

theorem over_AggAll : Rows.aggAllRow.holds Try.pinned (OpenSpec.ofChange Rows.aggAllSpec) :=
  OpenClaim.holds_of_wide 5 Try.f5 rfl rfl rfl rfl rfl rfl rfl ⟨rfl, rfl, rfl, rfl, rfl⟩ rfl rfl rfl rfl rfl (by kernel_rfl) Try.func5 (by kernel_rfl)
    (of_decide_eq_true (by kernel_rfl)) (by unfold Func.isWrapper; first | (rw [if_pos (by decide +kernel)]; kernel_rfl) | (rw [if_neg (by decide +kernel)]; exact ⟨rfl, rfl⟩))
    (fun os started H enc _ => lifted_AggAll os started H enc)

theorem aggAll_holds : Rows.AggAllSaid := over_AggAll

#print axioms aggAll_holds
end Go.Proofs.Ytfaahkjgbjcjgaa
