/-
  Rows.AggBoundsSaid is proved: for every list of samples all values lie between the least and the greatest, which are among them; so does the mean; the sum is that of the values. No condition.
-/
import Derived.Test.YtfaahkjgbjcjgaaAgLaw
import Derived.Test.YtfaahkjgbjcjgaaAgPl5
import Derived.Test.YtfaahkjgbjcjgaaDivSay
import Derived.IntWalk
namespace Go.Proofs.Ytfaahkjgbjcjgaa
open Go.ChangeShapes Go.WideShapes Go.ChangeAt Go.RowKit
set_option linter.unusedVariables false

theorem div_says {hi lo T : Int} {q : Nat} (h0 : 0 ≤ hi) (hlo : U64 lo) (hq : hi < (q : Int) + 1) (hq60 : q ≤ 60) (hT : T = hi * 18446744073709551616 + lo) :
    ∃ r, DivSays hi lo ((q : Int) + 1) (T / ((q : Int) + 1)) r := by
  obtain ⟨H, rfl⟩ := Int.eq_ofNat_of_zero_le h0
  obtain ⟨O, rfl⟩ := Int.eq_ofNat_of_zero_le hlo.1
  have hO : O < 18446744073709551616 := by have := hlo.2; omega
  refine ⟨((H * 18446744073709551616 + O) % (q + 1) : Nat), fun wx => ?_⟩
  have h := div64_say H O (q + 1) (by omega) (by omega) hO wx
  have e : (((H * 18446744073709551616 + O) / (q + 1) : Nat) : Int) = T / ((q : Int) + 1) := by
    rw [hT, Int.natCast_ediv, Int.natCast_add, Int.natCast_mul, Int.natCast_add]; rfl
  rw [e, Int.natCast_add] at h
  exact h

theorem any_of {l : List Smp} {c : Int} (h : ∃ s ∈ l, s.2 = c) : l.any (fun s => s.2 == c) = true := by
  obtain ⟨s, hs, e⟩ := h
  exact List.any_eq_true.2 ⟨s, hs, by simp [e]⟩

theorem high_le {p : List Smp} {h l : Int} {k : Nat} (hp : p.length ≤ k) (hok : ∀ s ∈ p, SmpOk s) (he : tot p = h * 18446744073709551616 + l) (hl : U64 l) : h ≤ (k : Int) := by
  have h1 := tot_high (l := p) (c := 18446744073709551615) (fun s hs => by have := (hok s hs).2.2; omega)
  have h2 := hl.1
  omega

set_option maxRecDepth 100000 in
set_option maxHeartbeats 4000000 in
theorem walk_AggBounds (w : World) (A : Option Addr) (c : Nat) (l : List Smp) (hr : RdS w A l) (hf : ∀ s ∈ l, SmpOk s) (hm : l.length ≤ maxLen) :
    Calls Try.prog 7 #[.slice A l.length c] w fun e w' => e = .returned (.bool true) ∧ Below w.heap.size w w' := by
  by_cases hbig : (60 : Int) < (l.length : Int)
  · have hd' : decide (60 < l.length) = true := by simp; omega
    clear hm hf hr
    go_enter Try.func7, Try.ntmps7
    go_wp2_with fail
    refine (known_any _).mono ?_
    rintro e w1 ⟨rfl, hb1⟩
    go_wp2_with fail
    go_ret
    exact ⟨rfl, hb1⟩
  have hd' : decide (60 < l.length) = false := by simp; omega
  have hl60 : l.length ≤ 60 := by omega
  obtain ⟨L, hL⟩ : ∃ L, rise l = L := ⟨_, rfl⟩
  have hall := rise_all l
  rw [hL] at hall
  have hm60 : L.length ≤ 60 := by have := hall.2.1; omega
  have hFew : Few L := ⟨by omega, fun s hs => hf s (hall.2.2 s hs)⟩
  have hRis := hall.1
  have hRA := fun wx (h : RdS wx A l) => rising_any A c l wx h (by omega)
  rw [hL] at hRA
  obtain ⟨n, hn⟩ : ∃ n, l.length = n := ⟨_, rfl⟩
  rw [hn] at hd' hRA
  rw [hn]
  have HRA := Lib.hid hRA
  clear hf hm hbig hl60 hL hall hRA hn
  have hn' : n ≤ 60 := by simpa using hd'
  by_cases hL0 : L = []
  · subst hL0
    have HO := Lib.hid (fun (A' : Option Addr) (c' : Nat) wx h => of_mk (A := A') (c := c') (l := []) (n := 0) rfl hFew hRis wx h)
    rw [mk_nil] at HO
    have HME : Hid (∀ wx, Calls Try.prog 13 #[.agg #[.int .u64 0, .int .i64 0, .int .u64 0, .int .i64 0, .int .u64 0, .int .u64 0, .int .u64 0, .int .u64 0, .int .u64 0]] wx fun e w' => e = .returned (.tuple #[.int .u64 0, .bool false]) ∧ Below wx.heap.size wx w') := Lib.hid (fun wx => mean_none Ag.zero wx (.inl rfl))
    clear hFew hRis hm60
    go_enter Try.func7, Try.ntmps7
    go_wp2_with fail
    refine (known_any _).mono ?_
    rintro e w1 ⟨rfl, hbw1⟩
    go_wp2_with fail
    refine (HRA.out _ (hr.below hbw1)).mono ?_
    rintro e w2 ⟨A2, c2, rfl, hcap, hown, hb2⟩
    rw [List.length_nil] at hcap ⊢
    have hbw2 := hbw1.trans (hb2.mono hbw1.size)
    clear hown hb2 HRA
    go_wp2_with fail
    refine (HO.out _ _ _ (.inl rfl)).mono ?_
    rintro e w3 ⟨rfl, hb3⟩
    have hbw3 := hbw2.trans (hb3.mono hbw2.size)
    clear hb3
    have HT := Lib.hid (agBlk (w := w3) (t := 29) (cs := #[.int .u64 0, .int .i64 0, .int .u64 0, .int .i64 0, .int .u64 0, .int .u64 0, .int .u64 0, .int .u64 0, .int .u64 0]))
    have hbz := hbw3.alloc hbw3.size (.cells #[.int .u64 0, .int .i64 0, .int .u64 0, .int .i64 0, .int .u64 0, .int .u64 0, .int .u64 0, .int .u64 0, .int .u64 0] 29)
    simp only [Ag.zero]
    go_wp2_with fail
    refine (HME.out _).mono ?_
    rintro e w4 ⟨rfl, hb4⟩
    have hbw4 := hbz.trans (hb4.mono hbz.size)
    replace HT := Lib.hid (HT.out.below hb4 HT.out.lt)
    clear hb4
    have c0 := HT.out.cell 0; have c1 := HT.out.cell 1; have c2 := HT.out.cell 2; have c3 := HT.out.cell 3; have c4 := HT.out.cell 4; have c5 := HT.out.cell 5; have c6 := HT.out.cell 6; have c7 := HT.out.cell 7; have c8 := HT.out.cell 8
    go_wp2_with fail
    go_ret
    exact ⟨rfl, hbw4⟩
  obtain ⟨q, hq⟩ : ∃ q, L.length = q + 1 := ⟨L.length - 1, by have := List.length_pos_iff.2 hL0; omega⟩
  have hq60 : q ≤ 59 := by omega
  have hmk := mk_fields hFew hm60 hL0
  have hmean := mean_between hL0
  have hbnd := bounds_all L
  have hany1 := any_of (hbnd.2 hL0).1
  have hany2 := any_of (hbnd.2 hL0).2
  have hbs := hbnd.1
  rw [hq, Int.natCast_add] at hmk hmean
  have hlo64 : U64 (tot L % 18446744073709551616) := by simp only [U64]; omega
  have hTT : tot L = tot L / 18446744073709551616 * 18446744073709551616 + tot L % 18446744073709551616 := by omega
  have hlast : L[q]? = some (laS L) := by
    rcases snoc_cases L with rfl | ⟨p, x, rfl⟩
    · exact absurd rfl hL0
    · rw [laS_snoc]
      have : p.length = q := by simpa using hq
      rw [← this]; simp
  have hfirst : L[0]? = some (hdS L) := by
    obtain ⟨s, r, rfl⟩ := List.exists_cons_of_ne_nil hL0
    rfl
  obtain ⟨ft, hft⟩ : ∃ x, (hdS L).1 = x := ⟨_, rfl⟩
  obtain ⟨fv, hfv⟩ : ∃ x, (hdS L).2 = x := ⟨_, rfl⟩
  obtain ⟨lt, hlt⟩ : ∃ x, (laS L).1 = x := ⟨_, rfl⟩
  obtain ⟨lv, hlv⟩ : ∃ x, (laS L).2 = x := ⟨_, rfl⟩
  obtain ⟨mi, hmi⟩ : ∃ x, mins L = x := ⟨_, rfl⟩
  obtain ⟨ma, hma⟩ : ∃ x, maxs L = x := ⟨_, rfl⟩
  obtain ⟨hi, hhi⟩ : ∃ x, tot L / 18446744073709551616 = x := ⟨_, rfl⟩
  obtain ⟨lo, hlo⟩ : ∃ x, tot L % 18446744073709551616 = x := ⟨_, rfl⟩
  rw [hft, hfv, hlt, hlv, hmi, hma, hhi, hlo] at hmk
  rw [hhi, hlo] at hTT
  rw [hlo] at hlo64
  rw [hmi, hma] at hmean hbs
  rw [hmi] at hany1
  rw [hma] at hany2
  have hhi0 : 0 ≤ hi := hmk.2.1
  have hhiq : hi < (q : Int) + 1 := hmk.2.2
  obtain ⟨rr, hdiv⟩ := div_says (T := tot L) hhi0 hlo64 hhiq (by omega) hTT
  obtain ⟨mn, hmn⟩ : ∃ x, tot L / ((q : Int) + 1) = x := ⟨_, rfl⟩
  rw [hmn] at hdiv
  have hmean' : mi ≤ mn ∧ mn ≤ ma := by rw [← hmn]; exact hmean
  have hmean1 := hmean'.1
  have hmean2 := hmean'.2
  have HO := fun (A' : Option Addr) (c' : Nat) wx h => of_mk (A := A') (c := c') hq hFew hRis wx h
  rw [hmk.1] at HO
  replace HO := Lib.hid HO
  have HME : Hid (∀ wx, Calls Try.prog 13 #[.agg #[.int .u64 ((q : Int) + 1), .int .i64 ft, .int .u64 fv, .int .i64 lt, .int .u64 lv, .int .u64 mi, .int .u64 ma, .int .u64 hi, .int .u64 lo]] wx fun e w' => e = .returned (.tuple #[.int .u64 mn, .bool true]) ∧ Below wx.heap.size wx w') :=
    Lib.hid (fun wx => mean_of ⟨(q : Int) + 1, ft, fv, lt, lv, mi, ma, hi, lo⟩ mn rr wx hdiv (by show ¬ ((q : Int) + 1 = 0); omega) hhiq)
  have HQ := Lib.hid hq
  have HBS := Lib.hid hbs
  have HA1 := Lib.hid hany1
  have HA2 := Lib.hid hany2
  have HTT := Lib.hid hTT
  have HHI := Lib.hid hhi
  have HLO := Lib.hid hlo
  have HOK := Lib.hid hFew.2
  have hsf : hdS L = (ft, fv) := by rw [← hft, ← hfv]
  have hsl : laS L = (lt, lv) := by rw [← hlt, ← hlv]
  rw [hsf] at hfirst
  rw [hsl] at hlast
  have HF := Lib.hid hfirst
  have HL := Lib.hid hlast
  have HLE0 := Lib.hid hm60
  clear hmk hmean hbnd hany1 hany2 hbs hlo64 hTT hlast hfirst hft hfv hlt hlv hmi hma hhi hlo hdiv hmn hmean' hq hFew hRis hL0 hsf hsl hm60 hhiq hhi0
  have hq' : (q : Int) ≤ 59 := by omega
  have b1 : (((q + 1 : Nat) : Int) == 0) = false := beq_eq_false_iff_ne.2 (by omega)
  have b2 : ((q : Int) + 1 == 0) = false := beq_eq_false_iff_ne.2 (by omega)
  have b5 : IntKind.i64.wrap (q : Int) = (q : Int) := IntWalk.i64_in _ (by omega)
  go_enter Try.func7, Try.ntmps7
  go_wp2_with fail
  refine (known_any _).mono ?_
  rintro e w1 ⟨rfl, hbw1⟩
  go_wp2_with fail
  refine (HRA.out _ (hr.below hbw1)).mono ?_
  rintro e w2 ⟨A2, c2, rfl, hcap, hown, hb2⟩
  rw [HQ.out] at hcap ⊢
  have hbw2 := hbw1.trans (hb2.mono hbw1.size)
  have hR2 := RdS.of_own hown
  clear hown hb2 HRA
  go_wp2_with fail
  refine (HO.out _ _ _ hR2).mono ?_
  rintro e w3 ⟨rfl, hb3⟩
  have hbw3 := hbw2.trans (hb3.mono hbw2.size)
  replace hR2 := hR2.below hb3
  clear hb3
  have HT := Lib.hid (agBlk (w := w3) (t := 29) (cs := #[.int .u64 ((q : Int) + 1), .int .i64 ft, .int .u64 fv, .int .i64 lt, .int .u64 lv, .int .u64 mi, .int .u64 ma, .int .u64 hi, .int .u64 lo]))
  have hbz := hbw3.alloc hbw3.size (.cells #[.int .u64 ((q : Int) + 1), .int .i64 ft, .int .u64 fv, .int .i64 lt, .int .u64 lv, .int .u64 mi, .int .u64 ma, .int .u64 hi, .int .u64 lo] 29)
  replace hR2 := hR2.alloc (.cells #[.int .u64 ((q : Int) + 1), .int .i64 ft, .int .u64 fv, .int .i64 lt, .int .u64 lv, .int .u64 mi, .int .u64 ma, .int .u64 hi, .int .u64 lo] 29)
  go_wp2_with fail
  refine (HME.out _).mono ?_
  rintro e w4 ⟨rfl, hb4⟩
  have hbw4 := hbz.trans (hb4.mono hbz.size)
  replace HT := Lib.hid (HT.out.below hb4 HT.out.lt)
  replace hR2 := hR2.below hb4
  clear hb4
  obtain ⟨g, o, rfl, hg, d0, d1⟩ := hR2.at_ HF.out
  obtain ⟨g', o', hgo, _, d2, d3⟩ := hR2.at_ HL.out
  injection hgo with hgo
  injection hgo with hg1 ho1
  subst hg1
  subst ho1
  rw [Nat.zero_mul, Nat.add_zero] at d0 d1
  have c0 := HT.out.cell 0; have c1 := HT.out.cell 1; have c2 := HT.out.cell 2; have c3 := HT.out.cell 3; have c4 := HT.out.cell 4; have c5 := HT.out.cell 5; have c6 := HT.out.cell 6; have c7 := HT.out.cell 7; have c8 := HT.out.cell 8
  go_wp2_with fail
  go_loop [8, 9, 10, 11, 12] (fun s8 s9 s10 s11 s12 => ∃ (k : Nat) (h l : Int) (le mo : Bool), k ≤ q + 1 ∧ s12 = .int .i64 k ∧ s8 = .int .u64 l ∧ s9 = .int .u64 h ∧ s10 = .bool le ∧ s11 = .bool mo ∧ 0 ≤ h ∧ Hid (U64 l) ∧ Hid (tot (L.take k) = h * 18446744073709551616 + l) ∧ Hid ((L.take k).any (fun s => s.2 == mi) = le) ∧ Hid ((L.take k).any (fun s => s.2 == ma) = mo)) (fun _ _ _ _ s12 => q + 1 - (intOf s12).toNat)
  case atStart => exact ⟨0, 0, 0, false, false, Nat.zero_le _, rfl, rfl, rfl, rfl, rfl, Int.le_refl _, Lib.hid ⟨by decide, by decide⟩, Lib.hid rfl, Lib.hid rfl, Lib.hid rfl⟩
  case round =>
    obtain ⟨k, h, lx, le, mo, hk, rfl, rfl, rfl, rfl, rfl, hh0, HU, HS, HLE, HMO⟩ := hrel
    have hk' : (k : Int) ≤ (q : Int) + 1 := by omega
    by_cases h0 : k = q + 1
    · have hT := HS.out
      rw [h0, List.take_of_length_le (by rw [HQ.out]; exact Nat.le_refl _)] at hT
      have h1 := tot_end hT HU.out
      have e1 : hi = h := by rw [← HHI.out]; exact h1.1
      have e2 : lo = lx := by rw [← HLO.out]; exact h1.2
      have e3 := HLE.out
      have e4 := HMO.out
      rw [h0, List.take_of_length_le (by rw [HQ.out]; exact Nat.le_refl _)] at e3 e4
      rw [HA1.out] at e3
      rw [HA2.out] at e4
      subst e1 e2 e3 e4 h0
      clear hT h1
      go_wp2_with fail
      go_quiet (fail)
      go_wp2_with fail
      go_ret
      exact ⟨rfl, below_drewN hbw4 _⟩
    · have hkq : k < q + 1 := by omega
      have hkI : (k : Int) < (q : Int) + 1 := by omega
      have hd3 : decide (k < q + 1) = true := decide_eq_true hkq
      obtain ⟨x, hx⟩ : ∃ x, L[k]? = some x := ⟨L[k]'(by rw [HQ.out]; exact hkq), List.getElem?_eq_getElem (by rw [HQ.out]; exact hkq)⟩
      obtain ⟨t, v⟩ := x
      have hsx : SmpOk (t, v) := HOK.out _ (List.mem_of_getElem? hx)
      have hbv := HBS.out _ (List.mem_of_getElem? hx)
      have hv1 : mi ≤ v := hbv.1
      have hv2 : v ≤ ma := hbv.2
      obtain ⟨g2, o2, hgo2, _, e0, e1⟩ := hR2.at_ hx
      injection hgo2 with hgo2
      injection hgo2 with hg2 ho2
      subst hg2
      subst ho2
      have HTK := Lib.hid (take_snoc' hx)
      obtain ⟨l', hl'⟩ : ∃ l', (lx + v) % 18446744073709551616 = l' := ⟨_, rfl⟩
      have f1 : IntKind.u64.wrap (lx + v) = l' := by rw [IntKind.wrap_u64]; exact hl'
      have hst := tot_step HS.out HU.out hsx.2 hl'.symm
      have hh60 : h ≤ (k : Int) := high_le (by rw [List.length_take]; omega) (fun s hs => HOK.out s (List.mem_of_mem_take hs)) HS.out HU.out
      have f2 : IntKind.u64.wrap (h + 1) = h + 1 := by rw [IntKind.wrap_u64]; omega
      have HT2 : Hid (tot (L.take (k + 1)) = (if l' < v then h + 1 else h) * 18446744073709551616 + l') := Lib.hid (by rw [HTK.out, tot_append]; simp only [tot, Int.add_zero]; exact hst.1)
      have HU2 := Lib.hid hst.2
      have HA3 : Hid (∀ c, (L.take (k + 1)).any (fun s => s.2 == c) = ((L.take k).any (fun s => s.2 == c) || (v == c))) := Lib.hid (fun c => by rw [HTK.out, List.any_append]; simp)
      have p1 := HA3.out mi
      have p2 := HA3.out ma
      rw [HLE.out] at p1
      rw [HMO.out] at p2
      have hv0 : decide (v < mi) = false := decide_eq_false (by omega)
      have hv9 : decide (ma < v) = false := decide_eq_false (by omega)
      clear hx hsx hbv hl' hst h0 hh60
      have P1 := Lib.hid p1
      have P2 := Lib.hid p2
      clear p1 p2
      by_cases hcar : l' < v
      · have f3 : decide (l' < v) = true := decide_eq_true hcar
        have HT3 := Lib.hid (HT2.out.trans (by rw [if_pos hcar]))
        clear HT2
        cases hm1 : (v == mi) <;> cases hm2 : (v == ma) <;> cases le <;> cases mo
        all_goals
          rw [hm1] at P1
          rw [hm2] at P2
          go_wp2_with fail
          go_round
          case rel => exact ⟨k + 1, h + 1, l', _, _, by omega, by go_num, rfl, rfl, rfl, rfl, by omega, HU2, HT3, P1, P2⟩
          case measure => simp [intOf]; omega
      · have f3 : decide (l' < v) = false := decide_eq_false hcar
        have HT3 := Lib.hid (HT2.out.trans (by rw [if_neg hcar]))
        clear HT2 f2
        cases hm1 : (v == mi) <;> cases hm2 : (v == ma) <;> cases le <;> cases mo
        all_goals
          rw [hm1] at P1
          rw [hm2] at P2
          go_wp2_with fail
          go_round
          case rel => exact ⟨k + 1, h, l', _, _, by omega, by go_num, rfl, rfl, rfl, rfl, by omega, HU2, HT3, P1, P2⟩
          case measure => simp [intOf]; omega

set_option maxRecDepth 100000 in
theorem lifted_AggBounds (os : Os) (started : os.Started) (H : Type) (enc : TypeId × Value → H) :
    ReturnsInHanded {} Try.checked os 7 .any (Rows.aggBoundsSpec.pre6 enc Try.prog Try.f7 Rows.aggBoundsRow.domain false) (Rows.aggBoundsSpec.post enc Try.prog Try.f7 false true false false) := by
  refine returnsInHanded_of_change (C := Try.checked) own started (by kernel_rfl) Try.func7
    (ChangeSpec.witness6 (enc := enc) (C := Try.checked) false ⟨#[], #[.slice none 0 0], []⟩ 8 (by kernel_rfl) (by kernel_rfl) (by kernel_rfl) (by kernel_rfl)) ?_
  intro W base args ds gs before hval0 hW hcnd _
  have hval : ∀ (j : Nat) t v, Try.f7.params[j]? = some t → args[j]? = some v → Value.okWide Try.prog W .any base t v := hval0
  have hW' := hW
  obtain ⟨p, q, hA0, hV, rfl, hfz, hnd⟩ := hW
  have hA : DataW.TrodAll enc Try.prog W 0 (fun _ => true) true Try.f7.params.toList args.toList ds p := hA0
  rw [Try.params7] at hA hval
  obtain ⟨v0, vs0, d0, ds0, p0, q0, hargs, rfl, rfl, h0, r0⟩ := trodAll_cons hA
  obtain ⟨rfl, rfl, rfl⟩ := trodAll_nil r0
  obtain rfl : args = #[v0] := by cases args; simp_all
  obtain ⟨rfl, rfl⟩ := trodVars_none hV
  have k0 := h0
  have lt0 : ∀ x ∈ p0, x.block < W.heap.size := by obtain ⟨m, hm⟩ := k0; exact DataW.trod_lt m _ _ _ hm
  obtain ⟨A0, c0, l0, rfl, rd0, fi0, le0⟩ := open_samples (hval 0 22 v0 rfl rfl) h0
  clear hA0 hval0
  refine (walk_AggBounds W A0 c0 l0 rd0 fi0 le0).mono fun e W' ⟨he, bel⟩ => ?_
  subst he
  exact ⟨_, rfl, _, _, _, [], _, [], hW', trodAll_mk1 (shut_bool Try.underlying4 _), (trodAll_cons_mk (Below.trod laidOut (by kernel_rfl) (of_decide_eq_true (by kernel_rfl)) k0 bel lt0) trodAll_mk0), rfl, bel.frame _, fun h => by cases h⟩

theorem over_AggBounds : Rows.aggBoundsRow.holds Try.pinned (OpenSpec.ofChange Rows.aggBoundsSpec) :=
  OpenClaim.holds_of_wide 7 Try.f7 rfl rfl rfl rfl rfl rfl rfl ⟨rfl, rfl, rfl, rfl, rfl⟩ rfl rfl rfl rfl rfl (by kernel_rfl) Try.func7 (by kernel_rfl)
    (of_decide_eq_true (by kernel_rfl)) (by unfold Func.isWrapper; first | (rw [if_pos (by decide +kernel)]; kernel_rfl) | (rw [if_neg (by decide +kernel)]; exact ⟨rfl, rfl⟩))
    (fun os started H enc _ => lifted_AggBounds os started H enc)

theorem aggBounds_holds : Rows.AggBoundsSaid := over_AggBounds

#print axioms aggBounds_holds
end Go.Proofs.Ytfaahkjgbjcjgaa
