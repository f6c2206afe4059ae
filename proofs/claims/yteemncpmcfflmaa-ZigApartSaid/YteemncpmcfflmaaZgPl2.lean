/-
  Plain facts on numbers written as bits: what is written is read; what is read was written so.
-/
import Derived.Test.YteemncpmcfflmaaZgRGet
import Derived.Test.YteemncpmcfflmaaPl5
namespace Go.Proofs.Yteemncpmcfflmaa
open Go.RowKit Pl
set_option linter.unusedVariables false

theorem lead_replicate (M : List Bool) : ∀ k, lead (List.replicate k true ++ M) = k + lead M
  | 0 => by simp
  | k + 1 => by rw [List.replicate_succ, List.cons_append]; simp only [lead]; rw [lead_replicate M k]; omega
theorem lead_take : ∀ (M : List Bool) (k : Nat), k ≤ lead M → M.take k = List.replicate k true
  | M, 0, _ => by simp
  | [], k + 1, h => by simp [lead] at h
  | true :: r, k + 1, h => by rw [List.take_succ_cons, List.replicate_succ, lead_take r k (by simp only [lead] at h; omega)]
  | false :: r, k + 1, h => by simp [lead] at h
theorem lead_next : ∀ (M : List Bool), lead M < M.length → M[lead M]? = some false
  | [], h => by simp at h
  | true :: r, h => by simp only [lead, List.length_cons] at h ⊢; rw [List.getElem?_cons_succ]; exact lead_next r (by omega)
  | false :: r, h => by simp [lead]

theorem mny_eq {k : Nat} (hk : k ≤ 5) : mny k = k + (if k < 5 then 1 else 0) := by
  obtain rfl | rfl | rfl | rfl | rfl | rfl : k = 0 ∨ k = 1 ∨ k = 2 ∨ k = 3 ∨ k = 4 ∨ k = 5 := by omega
  all_goals rfl
theorem whQ_eq (L : List Bool) (p : Nat) : whQ L p = p + mny (whK L p) := by
  rw [mny_eq (whK_le L p)]; unfold whQ; omega

theorem code_length (v : Int) : (code v).length = mny (row (fold v)) + wid (row (fold v)) := by
  unfold code; rw [List.length_append, nbits_length, nbits_length]
theorem code_pos (v : Int) : 1 ≤ (code v).length := by
  rw [code_length]
  have hk := row_le (fold v)
  have := mny_eq hk
  split at this <;> omega
theorem size_mono {j k : Nat} (hj : j ≤ k) (hk : k ≤ 5) : mny j + wid j ≤ mny k + wid k ∧ mny k + wid k ≤ 69 := by
  obtain rfl | rfl | rfl | rfl | rfl | rfl : k = 0 ∨ k = 1 ∨ k = 2 ∨ k = 3 ∨ k = 4 ∨ k = 5 := by omega
  all_goals
    obtain rfl | rfl | rfl | rfl | rfl | rfl : j = 0 ∨ j = 1 ∨ j = 2 ∨ j = 3 ∨ j = 4 ∨ j = 5 := by omega
    all_goals first
      | (exfalso; omega)
      | decide
theorem code_le (v : Int) : (code v).length ≤ 69 := by rw [code_length]; exact (size_mono (Nat.le_refl _) (row_le _)).2
theorem row_mono {a b : Nat} (h : a ≤ b) : row a ≤ row b := by
  have h1 := row_cases a
  have h2 := row_cases b
  omega
theorem fold_half (v : Int) : fold (v.tdiv 2) ≤ fold v := by
  unfold fold
  by_cases h : 0 ≤ v
  · rw [Int.tdiv_eq_ediv_of_nonneg h, if_pos h, if_pos (by omega)]; omega
  · have e : v.tdiv 2 = -((-v) / 2) := by
      have : v = -(-v) := by omega
      rw [this, Int.neg_tdiv, Int.tdiv_eq_ediv_of_nonneg (by omega)]
      omega
    rw [e, if_neg h]
    split <;> omega
theorem code_half (v : Int) : (code (v.tdiv 2)).length ≤ (code v).length := by
  rw [code_length, code_length]
  exact (size_mono (row_mono (fold_half v)) (row_le _)).1

theorem nbits_val : ∀ (n : Nat) (S : List Bool), S.length = n → nbits (val S) n = S
  | 0, S, h => by rw [List.eq_nil_of_length_eq_zero h]; rfl
  | n + 1, S, h => by
    have hne : S ≠ [] := by intro e; rw [e] at h; simp at h
    obtain ⟨M, b, rfl⟩ : ∃ M b, S = M ++ [b] := ⟨S.dropLast, S.getLast hne, (List.dropLast_concat_getLast hne).symm⟩
    have hl : M.length = n := by simpa using h
    rw [nbits_succ, val_snoc]
    have e1 : (2 * val M + b.toNat) / 2 = val M := by cases b <;> simp <;> omega
    have e2 : (2 * val M + b.toNat).testBit 0 = b := by cases b <;> simp [Nat.testBit_zero] <;> omega
    rw [e1, e2, nbits_val n M hl]

theorem row_fit (n : Nat) (h : U64 (n : Int)) : n < 2 ^ wid (row n) := by
  have hk := row_le n
  rcases (row_fits hk).1 (Nat.le_refl _) with h5 | h0
  · rw [h5]
    show n < 2 ^ 64
    have : (2 : Nat) ^ 64 = 18446744073709551616 := by decide
    simp only [U64] at h; omega
  · rcases Nat.lt_or_ge n (2 ^ wid (row n)) with h | h
    · exact h
    · have := Nat.div_pos h (Nat.two_pow_pos _); omega

/-- What is written is read. -/
theorem code_read {v : Int} (hv : I64 v) (P S : List Bool) {L : List Bool} (hL : L = P ++ code v ++ S) :
    ¬ Short L P.length ∧ row (zgN L P.length) = whK L P.length ∧ unfold (zgN L P.length) = v ∧ whQ L P.length + wid (whK L P.length) = P.length + (code v).length := by
  obtain ⟨n, hn⟩ : ∃ n, fold v = n := ⟨_, rfl⟩
  have hn64 := fold_lt hv
  rw [hn] at hn64
  have hk5 := row_le n
  have hd : L.drop P.length = List.replicate (row n) true ++ ((if row n < 5 then [false] else []) ++ (nbits n (wid (row n)) ++ S)) := by
    rw [hL, List.append_assoc, List.drop_left]
    unfold code
    rw [hn, ahd_bits hk5]
    simp only [List.append_assoc]
  have hK : whK L P.length = row n := by
    unfold whK
    rw [hd, lead_replicate]
    by_cases h5 : row n < 5
    · rw [if_pos h5, List.singleton_append]; simp only [lead]; omega
    · omega
  have hl : L.length = P.length + (mny (row n) + wid (row n)) + S.length := by
    rw [hL, List.length_append, List.length_append, code_length, hn]
  have hQ : whQ L P.length = P.length + mny (row n) := by rw [whQ_eq, hK]
  have hs : ¬ Short L P.length := by
    intro h
    rcases h with ⟨h1, h2⟩ | h
    · rw [hK] at h1 h2
      have := mny_eq hk5
      rw [if_pos h1] at this
      omega
    · rw [hQ, hK] at h; omega
  have hN : zgN L P.length = n := by
    unfold zgN
    rw [hQ, hK]
    have e : sub L (P.length + mny (row n)) (wid (row n)) = nbits n (wid (row n)) := by
      have hL2 : L = (P ++ nbits (ahd (row n)) (mny (row n))) ++ (nbits n (wid (row n)) ++ S) := by
        rw [hL]; unfold code; rw [hn]; simp only [List.append_assoc]
      simp only [sub]
      rw [hL2]
      have hlen : (P ++ nbits (ahd (row n)) (mny (row n))).length = P.length + mny (row n) := by rw [List.length_append, nbits_length]
      rw [← hlen, List.drop_left]
      have hlen2 : (nbits n (wid (row n))).length = wid (row n) := nbits_length _ _
      have := List.take_left (l₁ := nbits n (wid (row n))) (l₂ := S)
      rwa [hlen2] at this
    rw [e, val_nbits, Nat.mod_eq_of_lt (row_fit n hn64)]
  refine ⟨hs, by rw [hN, hK], by rw [hN, ← hn, unfold_fold], ?_⟩
  rw [hQ, hK, code_length, hn]
  omega

/-- What is read was written so. -/
theorem read_code {L : List Bool} {p : Nat} (hp : p ≤ L.length) (hs : ¬ Short L p) (hr : row (zgN L p) = whK L p) :
    whQ L p + wid (whK L p) ≤ L.length ∧ p ≤ whQ L p + wid (whK L p) ∧ sub L p (whQ L p + wid (whK L p) - p) = code (unfold (zgN L p)) := by
  have hk5 := whK_le L p
  have hQ := whQ_eq L p
  obtain ⟨k, hk⟩ : ∃ k, whK L p = k := ⟨_, rfl⟩
  have h1 : ¬ L.length < whQ L p + wid (whK L p) := fun h => hs (.inr h)
  have h2 : ¬ WhE L p := fun h => hs (.inl h)
  rw [hk] at hk5 hQ h1 hr ⊢
  refine ⟨by omega, by omega, ?_⟩
  have hlen := lead_len (L.drop p)
  rw [List.length_drop] at hlen
  have hhead : sub L p (mny k) = nbits (ahd k) (mny k) := by
    rw [ahd_bits hk5, mny_eq hk5]
    by_cases h5 : k < 5
    · rw [if_pos h5, if_pos h5]
      have hlead : lead (L.drop p) = k := by unfold whK at hk; omega
      have hl2 : k < (L.drop p).length := by
        rw [List.length_drop]
        unfold WhE at h2
        rw [hk] at h2
        omega
      have hnext := lead_next (L.drop p) (by rw [hlead]; exact hl2)
      rw [hlead] at hnext
      simp only [sub]
      rw [List.take_add_one, lead_take _ k (by omega), hnext]
      rfl
    · rw [if_neg h5, if_neg h5, Nat.add_zero, List.append_nil]
      simp only [sub]
      exact lead_take _ k (by unfold whK at hk; omega)
  have hbody : sub L (p + mny k) (wid k) = nbits (zgN L p) (wid k) := by
    unfold zgN
    rw [hQ, hk]
    exact (nbits_val _ _ (sub_length (by omega))).symm
  unfold code
  rw [fold_unfold, hr, ← hhead, ← hbody, hQ, show p + mny k + wid k - p = mny k + wid k from by omega, sub_add]

theorem code_front {u v : Int} (hu : I64 u) (hv : I64 v) {S T : List Bool} (h : code u ++ S = code v ++ T) : u = v ∧ S = T := by
  have h1 := code_read hu [] S (L := code u ++ S) (by simp)
  have h2 := code_read hv [] T (L := code u ++ S) (by rw [h]; simp)
  have e : u = v := h1.2.2.1.symm.trans h2.2.2.1
  refine ⟨e, ?_⟩
  rw [e] at h
  exact List.append_cancel_left h
/-- Numbers one behind the other. -/
def codes (l : List Int) : List Bool := l.flatMap code
theorem codes_nil : codes [] = [] := rfl
theorem codes_snoc (l : List Int) (v : Int) : codes (l ++ [v]) = codes l ++ code v := by simp [codes]
theorem codes_append (l m : List Int) : codes (l ++ m) = codes l ++ codes m := by simp [codes]
theorem codes_inj : ∀ {a b : List Int}, (∀ x ∈ a, I64 x) → (∀ x ∈ b, I64 x) → codes a = codes b → a = b
  | [], [], _, _, _ => rfl
  | [], v :: b, _, _, h => by
    have := congrArg List.length h
    have hp := code_pos v
    simp only [codes, List.flatMap_nil, List.flatMap_cons, List.length_nil, List.length_append] at this
    omega
  | u :: a, [], _, _, h => by
    have := congrArg List.length h
    have hp := code_pos u
    simp only [codes, List.flatMap_nil, List.flatMap_cons, List.length_nil, List.length_append] at this
    omega
  | u :: a, v :: b, ha, hb, h => by
    have h' : code u ++ codes a = code v ++ codes b := by simpa [codes] using h
    obtain ⟨e1, e2⟩ := code_front (ha u (by simp)) (hb v (by simp)) h'
    rw [e1, codes_inj (fun x hx => ha x (by simp [hx])) (fun x hx => hb x (by simp [hx])) e2]
theorem codes_len (l : List Int) : (codes l).length ≤ l.length * 69 := by
  induction l with
  | nil => simp [codes]
  | cons v l ih =>
    have := code_le v
    simp only [codes, List.flatMap_cons, List.length_append, List.length_cons] at ih ⊢
    omega
end Go.Proofs.Yteemncpmcfflmaa
