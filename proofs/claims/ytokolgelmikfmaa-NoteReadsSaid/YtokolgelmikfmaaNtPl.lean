/-
  Plain facts on notes: how they are written as bytes, and read; no program in sight.
-/
import Derived.Test.YtokolgelmikfmaaPl4
namespace Go.Proofs.Ytokolgelmikfmaa.Pl
set_option linter.unusedVariables false

def U32 (v : Int) : Prop := 0 ≤ v ∧ v < 4294967296
def I64 (v : Int) : Prop := -9223372036854775808 ≤ v ∧ v ≤ 9223372036854775807

/-- A number as so many bytes, the highest first. -/
def be : Nat → Nat → List Int
  | 0, _ => []
  | W + 1, v => ((v / 256 ^ W % 256 : Nat) : Int) :: be W v
theorem be_length : ∀ (W v : Nat), (be W v).length = W
  | 0, _ => rfl
  | W + 1, v => by simp [be, be_length W v]
theorem be_byts : ∀ (W v : Nat), Byts (be W v)
  | 0, _, x, h => absurd h (by simp [be])
  | W + 1, v, x, h => by
    rcases List.mem_cons.1 (show x ∈ ((v / 256 ^ W % 256 : Nat) : Int) :: be W v from h) with rfl | h
    · omega
    · exact be_byts W v x h
/-- So many bytes as a number. -/
def vb (l : List Int) : Nat := l.foldl (fun a x => a * 256 + x.toNat) 0
theorem foldl_vb (l : List Int) : ∀ a : Nat, l.foldl (fun a x => a * 256 + x.toNat) a = a * 256 ^ l.length + vb l := by
  induction l with
  | nil => intro a; simp [vb]
  | cons x l ih =>
    intro a
    rw [List.foldl_cons, ih]
    have h2 : vb (x :: l) = x.toNat * 256 ^ l.length + vb l := by
      show (x :: l).foldl _ 0 = _
      rw [List.foldl_cons, ih]; simp
    rw [h2, List.length_cons, Nat.pow_succ, Nat.add_mul, Nat.mul_assoc, Nat.mul_comm 256, Nat.add_assoc]
theorem vb_nil : vb [] = 0 := rfl
theorem vb_cons (x : Int) (l : List Int) : vb (x :: l) = x.toNat * 256 ^ l.length + vb l := by
  show (x :: l).foldl _ 0 = _
  rw [List.foldl_cons, foldl_vb]; simp
theorem vb_snoc (l : List Int) (x : Int) : vb (l ++ [x]) = vb l * 256 + x.toNat := by
  show (l ++ [x]).foldl _ 0 = _
  rw [List.foldl_append]; rfl
theorem vb_be : ∀ (W v : Nat), vb (be W v) = v % 256 ^ W
  | 0, v => by simp [be, vb_nil, Nat.mod_one]
  | W + 1, v => by
    rw [be, vb_cons, vb_be W v, be_length, Int.toNat_natCast, Nat.mod_pow_succ, Nat.mul_comm, Nat.add_comm]
theorem vb_lt : ∀ (l : List Int), Byts l → vb l < 256 ^ l.length
  | [], _ => by simp [vb_nil]
  | x :: l, h => by
    rw [vb_cons, List.length_cons, Nat.pow_succ]
    have h1 := vb_lt l (fun y hy => h y (List.mem_cons_of_mem _ hy))
    have h2 : x.toNat ≤ 255 := by have := h x (List.mem_cons_self); omega
    have h3 := Nat.mul_le_mul_right (256 ^ l.length) h2
    omega
theorem be_congr : ∀ (W a b : Nat), a % 256 ^ W = b % 256 ^ W → be W a = be W b
  | 0, _, _, _ => rfl
  | W + 1, a, b, h => by
    have e : ∀ n : Nat, n / 256 ^ W % 256 = n % 256 ^ (W + 1) / 256 ^ W := fun n => by rw [Nat.pow_succ, Nat.mod_mul_right_div_self]
    have e2 : ∀ n : Nat, n % 256 ^ W = n % 256 ^ (W + 1) % 256 ^ W := fun n => by rw [Nat.pow_succ, Nat.mod_mul_right_mod]
    rw [be, be, e a, e b, h, be_congr W a b (by rw [e2 a, e2 b, h])]
theorem be_vb : ∀ (l : List Int), Byts l → be l.length (vb l) = l
  | [], _ => rfl
  | x :: l, h => by
    have hl : Byts l := fun y hy => h y (List.mem_cons_of_mem _ hy)
    have hx := h x (List.mem_cons_self)
    have h1 := vb_lt l hl
    rw [vb_cons, List.length_cons, be]
    have hp : 0 < 256 ^ l.length := Nat.pow_pos (by decide)
    have e1 : (x.toNat * 256 ^ l.length + vb l) / 256 ^ l.length % 256 = x.toNat := by
      rw [Nat.mul_comm, Nat.mul_add_div hp, Nat.div_eq_of_lt h1]
      omega
    rw [e1, be_congr _ _ (vb l) (by rw [Nat.mul_comm, Nat.mul_add_mod]), be_vb l hl]
    rw [Int.toNat_of_nonneg hx.1]

/-- The bytes from a place on; noughts behind the end. -/
def rng (Bs : List Int) (p W : Nat) : List Int := (List.range W).map fun j => Bs.getD (p + j) 0
theorem rng_length (Bs : List Int) (p W : Nat) : (rng Bs p W).length = W := by simp [rng]
theorem rng_byts {Bs : List Int} (h : Byts Bs) (p W : Nat) : Byts (rng Bs p W) := fun x hx => by
  simp only [rng, List.mem_map] at hx
  obtain ⟨j, _, rfl⟩ := hx
  exact byts_get h _
theorem rng_snoc (Bs : List Int) (p W : Nat) : rng Bs p (W + 1) = rng Bs p W ++ [Bs.getD (p + W) 0] := by
  simp [rng, List.range_succ]
theorem rng_add (Bs : List Int) (p a : Nat) : ∀ b, rng Bs p (a + b) = rng Bs p a ++ rng Bs (p + a) b
  | 0 => by simp [rng]
  | b + 1 => by rw [← Nat.add_assoc, rng_snoc, rng_add Bs p a b, rng_snoc, List.append_assoc, Nat.add_assoc]
theorem rng_get {Bs : List Int} {p W j : Nat} (h : j < W) : (rng Bs p W)[j]? = some (Bs.getD (p + j) 0) := by
  simp [rng, h]
theorem rng_mid {L P S : List Int} {M : List Int} {p W : Nat} (h : L = P ++ (M ++ S)) (hp : P.length = p) (hW : M.length = W) : rng L p W = M := by
  apply List.ext_getElem?
  intro j
  by_cases hj : j < W
  · rw [rng_get hj, h, getD_append_right' _ _ _ (by omega), getD_append_left' _ _ _ (by omega), List.getElem?_eq_getElem (by omega)]
    rw [hp, Nat.add_sub_cancel_left, List.getD_eq_getElem?_getD, List.getElem?_eq_getElem (by omega)]
    rfl
  · rw [List.getElem?_eq_none (by rw [rng_length]; omega), List.getElem?_eq_none (by omega)]
theorem rng_take {Bs : List Int} {p W : Nat} (h : p + W ≤ Bs.length) : rng Bs p W = (Bs.drop p).take W := by
  refine rng_mid (P := Bs.take p) (S := (Bs.drop p).drop W) ?_ (by rw [List.length_take]; omega) (by rw [List.length_take, List.length_drop]; omega)
  rw [List.take_append_drop, List.take_append_drop]
theorem rng_all {Bs : List Int} {n : Nat} (h : Bs.length = n) : rng Bs 0 n = Bs := by
  rw [rng_take (by omega), List.drop_zero, List.take_of_length_le (by omega)]
theorem rng_one (Bs : List Int) (p : Nat) : rng Bs p 1 = [Bs.getD p 0] := by simp [rng]
/-- The number at a place. -/
def num (Bs : List Int) (p W : Nat) : Nat := vb (rng Bs p W)
theorem be_num {Bs : List Int} (h : Byts Bs) (p W : Nat) : be W (num Bs p W) = rng Bs p W := by
  have := be_vb (rng Bs p W) (rng_byts h p W)
  rwa [rng_length] at this
theorem num_lt {Bs : List Int} (h : Byts Bs) (p W : Nat) : num Bs p W < 256 ^ W := by
  have := vb_lt (rng Bs p W) (rng_byts h p W)
  rwa [rng_length] at this
theorem num_at {L P S : List Int} {W v p : Nat} (h : L = P ++ (be W v ++ S)) (hp : P.length = p) : num L p W = v % 256 ^ W := by
  rw [num, rng_mid h hp (be_length W v), vb_be]
theorem num_snoc (Bs : List Int) (p W : Nat) : num Bs p (W + 1) = num Bs p W * 256 + (Bs.getD (p + W) 0).toNat := by
  rw [num, rng_snoc, vb_snoc]; rfl
theorem num_zero (Bs : List Int) (p : Nat) : num Bs p 0 = 0 := rfl

/-- A number with a sign as one without, and back. -/
def u64of (t : Int) : Nat := (t % 18446744073709551616).toNat
def i64of (n : Nat) : Int := if n < 9223372036854775808 then (n : Int) else (n : Int) - 18446744073709551616
theorem u64of_lt (t : Int) : u64of t < 18446744073709551616 := by unfold u64of; omega
theorem i64of_u64of {t : Int} (h : I64 t) : i64of (u64of t) = t := by
  simp only [I64] at h
  unfold i64of u64of
  split <;> omega
theorem u64of_i64of {n : Nat} (h : n < 18446744073709551616) : u64of (i64of n) = n := by
  unfold i64of u64of
  split <;> omega
theorem i64of_ok {n : Nat} (h : n < 18446744073709551616) : I64 (i64of n) := by
  unfold i64of; simp only [I64]; split <;> omega

/-- A note. -/
structure Nt where
  k : Int
  e : Int
  s : Int
  t : Int
  v : Int
  c : Int
  b : Int
  m : Int
  n : Int
  z : Bool
  B : List Int
  N : Int

def Nt.Ok (x : Nt) : Prop := (0 ≤ x.k ∧ x.k < 256) ∧ U32 x.e ∧ U32 x.s ∧ I64 x.t ∧ U64 x.v ∧ U32 x.c ∧ U32 x.b ∧ U32 x.m ∧ U32 x.n ∧ Byts x.B ∧ I64 x.N

def plB (x : Nt) : Bool := x.n == 0 && (!x.z && (x.N == 0 && x.B.length == 0))
def mayB (x : Nt) : Bool :=
  if x.k = 1 then plB x && (x.s == 0 && ((x.t == 0 && x.v == 0) && (x.c == 0 && (x.b == 0 && x.m == 0))))
  else if x.k = 2 then plB x && (x.e == 0 && (x.c == 0 && (x.b == 0 && x.m == 0)))
  else if x.k = 3 then plB x && (x.e == 0 && (x.t == 0 && x.v == 0))
  else if x.k = 4 then x.e == 0 && ((x.t == 0 && x.v == 0) && (decide (x.m < x.n) && (decide (0 < x.N) && (decide (x.B.length ≤ 500) && sndB x.B x.N))))
  else false

/-- A note as bytes. -/
def enc (x : Nt) : List Int :=
  x.k :: (if x.k = 1 then be 4 x.e.toNat
    else if x.k = 2 then be 4 x.s.toNat ++ (be 8 (u64of x.t) ++ be 8 x.v.toNat)
    else if x.k = 3 then be 4 x.s.toNat ++ (be 4 x.c.toNat ++ (be 4 x.b.toNat ++ be 4 x.m.toNat))
    else be 4 x.s.toNat ++ (be 4 x.c.toNat ++ (be 4 x.b.toNat ++ (be 4 x.m.toNat ++ (be 4 x.n.toNat ++ (bi x.z :: (be 2 x.N.toNat ++ x.B)))))))

/-- What bytes are read as. -/
def parse (Bs : List Int) : Nt :=
  if Bs.getD 0 0 = 1 then ⟨1, num Bs 1 4, 0, 0, 0, 0, 0, 0, 0, false, [], 0⟩
  else if Bs.getD 0 0 = 2 then ⟨2, 0, num Bs 1 4, i64of (num Bs 5 8), num Bs 13 8, 0, 0, 0, 0, false, [], 0⟩
  else if Bs.getD 0 0 = 3 then ⟨3, 0, num Bs 1 4, 0, 0, num Bs 5 4, num Bs 9 4, num Bs 13 4, 0, false, [], 0⟩
  else if Bs.getD 0 0 = 4 then ⟨4, 0, num Bs 1 4, 0, 0, num Bs 5 4, num Bs 9 4, num Bs 13 4, num Bs 17 4, decide (num Bs 21 1 = 1), Bs.drop 24, num Bs 22 2⟩
  else ⟨Bs.getD 0 0, 0, num Bs 1 4, 0, 0, 0, 0, 0, 0, false, [], 0⟩

theorem pow4 : (256 : Nat) ^ 4 = 4294967296 := by decide
theorem pow8 : (256 : Nat) ^ 8 = 18446744073709551616 := by decide
theorem pow2 : (256 : Nat) ^ 2 = 65536 := by decide
theorem u32_back {v : Int} (h : U32 v) : ((v.toNat % 256 ^ 4 : Nat) : Int) = v := by
  simp only [U32] at h; rw [pow4]; omega
theorem u64_back {v : Int} (h : U64 v) : ((v.toNat % 256 ^ 8 : Nat) : Int) = v := by
  simp only [U64] at h; rw [pow8]; omega
theorem num_u32 {Bs : List Int} (h : Byts Bs) (p : Nat) : U32 (num Bs p 4 : Nat) := by
  have := num_lt h p 4; rw [pow4] at this; simp only [U32]; omega
theorem num_u64 {Bs : List Int} (h : Byts Bs) (p : Nat) : U64 (num Bs p 8 : Nat) := by
  have := num_lt h p 8; rw [pow8] at this; simp only [U64]; omega

theorem parse_ok {Bs : List Int} (h : Byts Bs) : (parse Bs).Ok := by
  have z32 : U32 0 := by simp only [U32]; omega
  have zi : I64 0 := by simp only [I64]; omega
  have zu : U64 0 := by simp only [U64]; omega
  have zb : Byts [] := fun x hx => absurd hx (by simp)
  have hk := byts_get h 0
  have k1 : (0 : Int) ≤ 1 ∧ (1 : Int) < 256 := by omega
  have k2 : (0 : Int) ≤ 2 ∧ (2 : Int) < 256 := by omega
  have k3 : (0 : Int) ≤ 3 ∧ (3 : Int) < 256 := by omega
  have k4 : (0 : Int) ≤ 4 ∧ (4 : Int) < 256 := by omega
  unfold parse
  split
  · exact ⟨k1, num_u32 h 1, z32, zi, zu, z32, z32, z32, z32, zb, zi⟩
  · split
    · exact ⟨k2, z32, num_u32 h 1, i64of_ok (by have := num_lt h 5 8; rwa [pow8] at this), num_u64 h 13, z32, z32, z32, z32, zb, zi⟩
    · split
      · exact ⟨k3, z32, num_u32 h 1, zi, zu, num_u32 h 5, num_u32 h 9, num_u32 h 13, z32, zb, zi⟩
      · split
        · exact ⟨k4, z32, num_u32 h 1, zi, zu, num_u32 h 5, num_u32 h 9, num_u32 h 13, num_u32 h 17, fun x hx => h x (List.mem_of_mem_drop hx), by
            have := num_lt h 22 2; rw [pow2] at this; simp only [I64]; omega⟩
        · exact ⟨hk, z32, num_u32 h 1, zi, zu, z32, z32, z32, z32, zb, zi⟩

theorem enc_byts {x : Nt} (h : x.Ok) : Byts (enc x) := by
  obtain ⟨hk, _, _, _, _, _, _, _, _, hB, _⟩ := h
  have happ : ∀ a b : List Int, Byts a → Byts b → Byts (a ++ b) := fun a b ha hb y hy => (List.mem_append.1 hy).elim (ha y) (hb y)
  have hcons : ∀ (a : Int) (b : List Int), 0 ≤ a ∧ a < 256 → Byts b → Byts (a :: b) := fun a b ha hb y hy => (List.mem_cons.1 hy).elim (fun e => by rw [e]; exact ha) (hb y)
  unfold enc
  refine hcons _ _ hk ?_
  split
  · exact be_byts _ _
  · split
    · exact happ _ _ (be_byts _ _) (happ _ _ (be_byts _ _) (be_byts _ _))
    · split
      · exact happ _ _ (be_byts _ _) (happ _ _ (be_byts _ _) (happ _ _ (be_byts _ _) (be_byts _ _)))
      · exact happ _ _ (be_byts _ _) (happ _ _ (be_byts _ _) (happ _ _ (be_byts _ _) (happ _ _ (be_byts _ _) (happ _ _ (be_byts _ _) (hcons _ _ (by have := bi_range x.z; omega) (happ _ _ (be_byts _ _) hB))))))

theorem enc_length {x : Nt} : (enc x).length = if x.k = 1 then 5 else if x.k = 2 then 21 else if x.k = 3 then 17 else 24 + x.B.length := by
  unfold enc
  split
  · simp [be_length]
  · split
    · simp [be_length]
    · split
      · simp [be_length]
      · simp [be_length]; omega

theorem may_kind {x : Nt} (h : mayB x = true) : x.k = 1 ∨ x.k = 2 ∨ x.k = 3 ∨ x.k = 4 := by
  unfold mayB at h
  by_cases h1 : x.k = 1
  · exact .inl h1
  · rw [if_neg h1] at h
    by_cases h2 : x.k = 2
    · exact .inr (.inl h2)
    · rw [if_neg h2] at h
      by_cases h3 : x.k = 3
      · exact .inr (.inr (.inl h3))
      · rw [if_neg h3] at h
        by_cases h4 : x.k = 4
        · exact .inr (.inr (.inr h4))
        · rw [if_neg h4] at h; cases h

theorem snd_small {B : List Int} {N : Int} (h : sndB B N = true) (hl : B.length ≤ 500) : 0 ≤ N ∧ N ≤ 4000 := by
  have h2 := (sndB_iff B N).1 h
  obtain ⟨h0, h1, _⟩ := h2
  omega

/-- What is written is read. -/
theorem parse_enc {x : Nt} (hx : x.Ok) (hm : mayB x = true) : parse (enc x) = x := by
  obtain ⟨k, e, s, t, v, c, b, m, n, z, B, N⟩ := x
  simp only [Nt.Ok] at hx
  obtain ⟨hk, he, hs, ht, hv, hc, hb, hmm, hn, hB, hN⟩ := hx
  rcases may_kind hm with h | h | h | h <;> (simp only at h; subst h)
  · simp only [mayB, plB, if_true, Bool.and_eq_true, beq_iff_eq, Bool.not_eq_true', List.length_eq_zero_iff] at hm
    obtain ⟨⟨rfl, rfl, rfl, rfl⟩, rfl, ⟨rfl, rfl⟩, rfl, rfl, rfl⟩ := hm
    obtain ⟨L, hL⟩ : ∃ L, enc ⟨1, e, 0, 0, 0, 0, 0, 0, 0, false, [], 0⟩ = L := ⟨_, rfl⟩
    have h0 : L = [1] ++ (be 4 e.toNat ++ []) := by rw [← hL]; simp [enc]
    have g0 : L.getD 0 0 = 1 := by rw [h0]; rfl
    have a1 : num L 1 4 = e.toNat % 256 ^ 4 := num_at h0 rfl
    rw [hL]
    unfold parse
    rw [if_pos g0, a1, u32_back he]
  · simp only [mayB, plB, Bool.and_eq_true, beq_iff_eq, Bool.not_eq_true', List.length_eq_zero_iff, show ¬ (2 : Int) = 1 from by decide, if_false, if_true] at hm
    obtain ⟨⟨rfl, rfl, rfl, rfl⟩, rfl, rfl, rfl, rfl⟩ := hm
    obtain ⟨L, hL⟩ : ∃ L, enc ⟨2, 0, s, t, v, 0, 0, 0, 0, false, [], 0⟩ = L := ⟨_, rfl⟩
    have h0 : L = [2] ++ (be 4 s.toNat ++ (be 8 (u64of t) ++ be 8 v.toNat)) := by rw [← hL]; simp [enc]
    have g0 : L.getD 0 0 = 2 := by rw [h0]; rfl
    have a1 : num L 1 4 = s.toNat % 256 ^ 4 := num_at h0 rfl
    have a2 : num L 5 8 = u64of t % 256 ^ 8 := num_at (P := [2] ++ be 4 s.toNat) (S := be 8 v.toNat) (by rw [h0]; simp) (by simp [be_length])
    have a3 : num L 13 8 = v.toNat % 256 ^ 8 := num_at (P := [2] ++ be 4 s.toNat ++ be 8 (u64of t)) (S := []) (by rw [h0]; simp) (by simp [be_length])
    rw [hL]
    unfold parse
    rw [if_neg (by rw [g0]; decide), if_pos g0, a1, a2, a3, u32_back hs, u64_back hv, Nat.mod_eq_of_lt (by rw [pow8]; exact u64of_lt t), i64of_u64of ht]
  · simp only [mayB, plB, Bool.and_eq_true, beq_iff_eq, Bool.not_eq_true', List.length_eq_zero_iff, show ¬ (3 : Int) = 1 from by decide, show ¬ (3 : Int) = 2 from by decide, if_false, if_true] at hm
    obtain ⟨⟨rfl, rfl, rfl, rfl⟩, rfl, rfl, rfl⟩ := hm
    obtain ⟨L, hL⟩ : ∃ L, enc ⟨3, 0, s, 0, 0, c, b, m, 0, false, [], 0⟩ = L := ⟨_, rfl⟩
    have h0 : L = [3] ++ (be 4 s.toNat ++ (be 4 c.toNat ++ (be 4 b.toNat ++ be 4 m.toNat))) := by rw [← hL]; simp [enc]
    have g0 : L.getD 0 0 = 3 := by rw [h0]; rfl
    have a1 : num L 1 4 = s.toNat % 256 ^ 4 := num_at h0 rfl
    have a2 : num L 5 4 = c.toNat % 256 ^ 4 := num_at (P := [3] ++ be 4 s.toNat) (S := be 4 b.toNat ++ be 4 m.toNat) (by rw [h0]; simp) (by simp [be_length])
    have a3 : num L 9 4 = b.toNat % 256 ^ 4 := num_at (P := [3] ++ be 4 s.toNat ++ be 4 c.toNat) (S := be 4 m.toNat) (by rw [h0]; simp) (by simp [be_length])
    have a4 : num L 13 4 = m.toNat % 256 ^ 4 := num_at (P := [3] ++ be 4 s.toNat ++ be 4 c.toNat ++ be 4 b.toNat) (S := []) (by rw [h0]; simp) (by simp [be_length])
    rw [hL]
    unfold parse
    rw [if_neg (by rw [g0]; decide), if_neg (by rw [g0]; decide), if_pos g0, a1, a2, a3, a4, u32_back hs, u32_back hc, u32_back hb, u32_back hmm]
  · simp only [mayB, Bool.and_eq_true, beq_iff_eq, decide_eq_true_eq, show ¬ (4 : Int) = 1 from by decide, show ¬ (4 : Int) = 2 from by decide, show ¬ (4 : Int) = 3 from by decide, if_false, if_true] at hm
    obtain ⟨rfl, ⟨rfl, rfl⟩, hmn, hN0, hlB, hsn⟩ := hm
    have hsm := snd_small hsn hlB
    obtain ⟨L, hL⟩ : ∃ L, enc ⟨4, 0, s, 0, 0, c, b, m, n, z, B, N⟩ = L := ⟨_, rfl⟩
    have h0 : L = [4] ++ (be 4 s.toNat ++ (be 4 c.toNat ++ (be 4 b.toNat ++ (be 4 m.toNat ++ (be 4 n.toNat ++ ([bi z] ++ (be 2 N.toNat ++ B))))))) := by rw [← hL]; simp [enc]
    have g0 : L.getD 0 0 = 4 := by rw [h0]; rfl
    have a1 : num L 1 4 = s.toNat % 256 ^ 4 := num_at h0 rfl
    have a2 : num L 5 4 = c.toNat % 256 ^ 4 := num_at (P := [4] ++ be 4 s.toNat) (S := be 4 b.toNat ++ (be 4 m.toNat ++ (be 4 n.toNat ++ ([bi z] ++ (be 2 N.toNat ++ B))))) (by rw [h0]; simp) (by simp [be_length])
    have a3 : num L 9 4 = b.toNat % 256 ^ 4 := num_at (P := [4] ++ be 4 s.toNat ++ be 4 c.toNat) (S := be 4 m.toNat ++ (be 4 n.toNat ++ ([bi z] ++ (be 2 N.toNat ++ B)))) (by rw [h0]; simp) (by simp [be_length])
    have a4 : num L 13 4 = m.toNat % 256 ^ 4 := num_at (P := [4] ++ be 4 s.toNat ++ be 4 c.toNat ++ be 4 b.toNat) (S := be 4 n.toNat ++ ([bi z] ++ (be 2 N.toNat ++ B))) (by rw [h0]; simp) (by simp [be_length])
    have a5 : num L 17 4 = n.toNat % 256 ^ 4 := num_at (P := [4] ++ be 4 s.toNat ++ be 4 c.toNat ++ be 4 b.toNat ++ be 4 m.toNat) (S := [bi z] ++ (be 2 N.toNat ++ B)) (by rw [h0]; simp) (by simp [be_length])
    have a7 : num L 22 2 = N.toNat % 256 ^ 2 := num_at (P := [4] ++ be 4 s.toNat ++ be 4 c.toNat ++ be 4 b.toNat ++ be 4 m.toNat ++ be 4 n.toNat ++ [bi z]) (S := B) (by rw [h0]; simp) (by simp [be_length])
    have hz : rng L 21 1 = [bi z] :=
      rng_mid (P := [4] ++ be 4 s.toNat ++ be 4 c.toNat ++ be 4 b.toNat ++ be 4 m.toNat ++ be 4 n.toNat) (S := be 2 N.toNat ++ B) (by rw [h0]; simp) (by simp [be_length]) rfl
    have a6 : num L 21 1 = z.toNat := by
      rw [num, hz]
      cases z <;> rfl
    have hd : L.drop 24 = B := by
      have e1 : L = ([4] ++ be 4 s.toNat ++ be 4 c.toNat ++ be 4 b.toNat ++ be 4 m.toNat ++ be 4 n.toNat ++ [bi z] ++ be 2 N.toNat) ++ B := by rw [h0]; simp
      have e2 : ([4] ++ be 4 s.toNat ++ be 4 c.toNat ++ be 4 b.toNat ++ be 4 m.toNat ++ be 4 n.toNat ++ [bi z] ++ be 2 N.toNat : List Int).length = 24 := by simp [be_length]
      rw [e1, ← e2, List.drop_left]
    have eN : ((N.toNat % 256 ^ 2 : Nat) : Int) = N := by rw [pow2]; omega
    have ez : decide (z.toNat = 1) = z := by cases z <;> rfl
    rw [hL]
    unfold parse
    rw [if_neg (by rw [g0]; decide), if_neg (by rw [g0]; decide), if_neg (by rw [g0]; decide), if_pos g0, hd, a1, a2, a3, a4, a5, a6, a7, u32_back hs, u32_back hc, u32_back hb, u32_back hmm, u32_back hn, eN, ez]

theorem enc_inj {x y : Nt} (hx : x.Ok) (hy : y.Ok) (mx : mayB x = true) (my : mayB y = true) (h : enc x = enc y) : x = y := by
  rw [← parse_enc hx mx, ← parse_enc hy my, h]

/-- Are bytes a note? -/
def goodB (Bs : List Int) : Bool := mayB (parse Bs) && decide (enc (parse Bs) = Bs)
theorem good_enc {x : Nt} (hx : x.Ok) (hm : mayB x = true) : goodB (enc x) = true := by
  unfold goodB
  rw [parse_enc hx hm, hm]; simp
theorem good_parts {Bs : List Int} (h : goodB Bs = true) : mayB (parse Bs) = true ∧ enc (parse Bs) = Bs := by
  unfold goodB at h
  simpa using h
theorem parse_k (Bs : List Int) : (parse Bs).k = Bs.getD 0 0 := by
  unfold parse
  split
  · rename_i h; rw [h]
  · split
    · rename_i h; rw [h]
    · split
      · rename_i h; rw [h]
      · split
        · rename_i h; rw [h]
        · rfl
theorem bad_kind {Bs : List Int} (h1 : ¬ Bs.getD 0 0 = 1) (h2 : ¬ Bs.getD 0 0 = 2) (h3 : ¬ Bs.getD 0 0 = 3) (h4 : ¬ Bs.getD 0 0 = 4) : goodB Bs = false := by
  cases h : goodB Bs with
  | false => rfl
  | true =>
    have := may_kind (good_parts h).1
    rw [parse_k] at this
    omega
theorem bad_len {Bs : List Int} (h : ¬ Bs.length = if Bs.getD 0 0 = 1 then 5 else if Bs.getD 0 0 = 2 then 21 else if Bs.getD 0 0 = 3 then 17 else 24 + (parse Bs).B.length) : goodB Bs = false := by
  cases hg : goodB Bs with
  | false => rfl
  | true =>
    exfalso
    apply h
    have := enc_length (x := parse Bs)
    rw [(good_parts hg).2, parse_k] at this
    exact this
theorem parse_B4 {Bs : List Int} (h : Bs.getD 0 0 = 4) : (parse Bs).B = Bs.drop 24 ∧ (parse Bs).N = num Bs 22 2 ∧ (parse Bs).z = decide (num Bs 21 1 = 1) := by
  unfold parse
  rw [if_neg (by rw [h]; decide), if_neg (by rw [h]; decide), if_neg (by rw [h]; decide), if_pos h]
  exact ⟨rfl, rfl, rfl⟩
theorem bad_nil : goodB [] = false := bad_kind (by decide) (by decide) (by decide) (by decide)
theorem bad_short4 {Bs : List Int} (h : Bs.getD 0 0 = 4) (hl : Bs.length < 24) : goodB Bs = false := by
  apply bad_len
  rw [h, if_neg (by decide), if_neg (by decide), if_neg (by decide)]
  omega
theorem bad_flag {Bs : List Int} (hB : Byts Bs) (h : Bs.getD 0 0 = 4) (hf : 1 < num Bs 21 1) : goodB Bs = false := by
  cases hg : goodB Bs with
  | false => rfl
  | true =>
    exfalso
    obtain ⟨h1, h2⟩ := good_parts hg
    have hk := parse_k Bs
    obtain ⟨p1, p2, p3⟩ := parse_B4 h
    have hz : rng (enc (parse Bs)) 21 1 = [bi (parse Bs).z] := by
      rw [enc, hk, h, if_neg (by decide), if_neg (by decide), if_neg (by decide)]
      exact rng_mid (P := [4] ++ be 4 (parse Bs).s.toNat ++ be 4 (parse Bs).c.toNat ++ be 4 (parse Bs).b.toNat ++ be 4 (parse Bs).m.toNat ++ be 4 (parse Bs).n.toNat) (S := be 2 (parse Bs).N.toNat ++ (parse Bs).B) (by simp) (by simp [be_length]) rfl
    rw [h2] at hz
    rw [num, hz] at hf
    have hb := bi_range (parse Bs).z
    simp only [vb, List.foldl_cons, List.foldl_nil] at hf
    omega
theorem enc_parse1 {Bs : List Int} (hB : Byts Bs) (h : Bs.getD 0 0 = 1) (hl : Bs.length = 5) : goodB Bs = true := by
  have h0 : Bs = rng Bs 0 1 ++ rng Bs 1 4 := by rw [← rng_add]; exact (rng_all hl).symm
  have hp : parse Bs = ⟨1, num Bs 1 4, 0, 0, 0, 0, 0, 0, 0, false, [], 0⟩ := by unfold parse; rw [if_pos h]
  have he : enc (parse Bs) = Bs := by
    rw [hp]
    simp only [enc, if_true, Int.toNat_natCast]
    rw [be_num hB]
    conv => rhs; rw [h0]
    rw [rng_one, h]; rfl
  unfold goodB
  rw [he, hp]
  simp [mayB, plB]
theorem enc_parse2 {Bs : List Int} (hB : Byts Bs) (h : Bs.getD 0 0 = 2) (hl : Bs.length = 21) : goodB Bs = true := by
  have h0 : Bs = rng Bs 0 1 ++ (rng Bs 1 4 ++ (rng Bs 5 8 ++ rng Bs 13 8)) := by rw [← rng_add, ← rng_add, ← rng_add]; exact (rng_all hl).symm
  have hp : parse Bs = ⟨2, 0, num Bs 1 4, i64of (num Bs 5 8), num Bs 13 8, 0, 0, 0, 0, false, [], 0⟩ := by unfold parse; rw [if_neg (by rw [h]; decide), if_pos h]
  have he : enc (parse Bs) = Bs := by
    rw [hp]
    simp only [enc, if_true, Int.toNat_natCast, show ¬ (2 : Int) = 1 from by decide, if_false]
    rw [u64of_i64of (by have := num_lt hB 5 8; rwa [pow8] at this), be_num hB, be_num hB, be_num hB]
    conv => rhs; rw [h0]
    rw [rng_one, h]; rfl
  unfold goodB
  rw [he, hp]
  simp [mayB, plB]
theorem enc_parse3 {Bs : List Int} (hB : Byts Bs) (h : Bs.getD 0 0 = 3) (hl : Bs.length = 17) : goodB Bs = true := by
  have h0 : Bs = rng Bs 0 1 ++ (rng Bs 1 4 ++ (rng Bs 5 4 ++ (rng Bs 9 4 ++ rng Bs 13 4))) := by rw [← rng_add, ← rng_add, ← rng_add, ← rng_add]; exact (rng_all hl).symm
  have hp : parse Bs = ⟨3, 0, num Bs 1 4, 0, 0, num Bs 5 4, num Bs 9 4, num Bs 13 4, 0, false, [], 0⟩ := by unfold parse; rw [if_neg (by rw [h]; decide), if_neg (by rw [h]; decide), if_pos h]
  have he : enc (parse Bs) = Bs := by
    rw [hp]
    simp only [enc, if_true, Int.toNat_natCast, show ¬ (3 : Int) = 1 from by decide, show ¬ (3 : Int) = 2 from by decide, if_false]
    rw [be_num hB, be_num hB, be_num hB, be_num hB]
    conv => rhs; rw [h0]
    rw [rng_one, h]; rfl
  unfold goodB
  rw [he, hp]
  simp [mayB, plB]
theorem enc_parse4 {Bs : List Int} (hB : Byts Bs) (h : Bs.getD 0 0 = 4) (hl : 24 ≤ Bs.length) (hf : num Bs 21 1 ≤ 1) : goodB Bs = mayB (parse Bs) := by
  have h0 : Bs = rng Bs 0 1 ++ (rng Bs 1 4 ++ (rng Bs 5 4 ++ (rng Bs 9 4 ++ (rng Bs 13 4 ++ (rng Bs 17 4 ++ (rng Bs 21 1 ++ (rng Bs 22 2 ++ Bs.drop 24))))))) := by
    have h1 : rng Bs 0 1 ++ (rng Bs 1 4 ++ (rng Bs 5 4 ++ (rng Bs 9 4 ++ (rng Bs 13 4 ++ (rng Bs 17 4 ++ (rng Bs 21 1 ++ rng Bs 22 2)))))) = Bs.take 24 := by
      rw [← rng_add, ← rng_add, ← rng_add, ← rng_add, ← rng_add, ← rng_add, ← rng_add, rng_take (by omega), List.drop_zero]
    have h2 : rng Bs 0 1 ++ (rng Bs 1 4 ++ (rng Bs 5 4 ++ (rng Bs 9 4 ++ (rng Bs 13 4 ++ (rng Bs 17 4 ++ (rng Bs 21 1 ++ (rng Bs 22 2 ++ Bs.drop 24))))))) = (rng Bs 0 1 ++ (rng Bs 1 4 ++ (rng Bs 5 4 ++ (rng Bs 9 4 ++ (rng Bs 13 4 ++ (rng Bs 17 4 ++ (rng Bs 21 1 ++ rng Bs 22 2))))))) ++ Bs.drop 24 := by simp
    rw [h2, h1, List.take_append_drop]
  have hp : parse Bs = ⟨4, 0, num Bs 1 4, 0, 0, num Bs 5 4, num Bs 9 4, num Bs 13 4, num Bs 17 4, decide (num Bs 21 1 = 1), Bs.drop 24, num Bs 22 2⟩ := by
    unfold parse; rw [if_neg (by rw [h]; decide), if_neg (by rw [h]; decide), if_neg (by rw [h]; decide), if_pos h]
  have hz : [bi (decide (num Bs 21 1 = 1))] = rng Bs 21 1 := by
    rw [← be_num hB 21 1]
    obtain h | h : num Bs 21 1 = 0 ∨ num Bs 21 1 = 1 := by omega
    · rw [h]; rfl
    · rw [h]; rfl
  have he : enc (parse Bs) = Bs := by
    rw [hp]
    simp only [enc, Int.toNat_natCast, show ¬ (4 : Int) = 1 from by decide, show ¬ (4 : Int) = 2 from by decide, show ¬ (4 : Int) = 3 from by decide, if_false]
    rw [be_num hB, be_num hB, be_num hB, be_num hB, be_num hB, be_num hB]
    conv => rhs; rw [h0]
    rw [← hz, rng_one, h]; rfl
  unfold goodB
  rw [he]; simp

/-- A front of a note is none. -/
theorem bad_front {Bs : List Int} (h : goodB Bs = true) {j : Nat} (hj : j < Bs.length) : goodB (Bs.take j) = false := by
  cases hg : goodB (Bs.take j) with
  | false => rfl
  | true =>
    exfalso
    have h1 := enc_length (x := parse Bs)
    have h2 := enc_length (x := parse (Bs.take j))
    obtain ⟨m1, e1⟩ := good_parts h
    obtain ⟨m2, e2⟩ := good_parts hg
    rw [e1, parse_k] at h1
    rw [e2, parse_k, List.length_take] at h2
    have k2 := may_kind m2
    rw [parse_k] at k2
    have hj0 : 0 < j := by
      rcases Nat.eq_zero_or_pos j with h0 | h0
      · subst h0
        simp at k2
      · exact h0
    have hget : ∀ i, i < j → (Bs.take j).getD i 0 = Bs.getD i 0 := fun i hi => by
      rw [List.getD_eq_getElem?_getD, List.getD_eq_getElem?_getD, List.getElem?_take_of_lt hi]
    rw [hget 0 hj0] at h2 k2
    have hmin : min j Bs.length = j := by omega
    rw [hmin] at h2
    rcases k2 with k | k | k | k
    · simp only [k, if_true] at h1 h2; omega
    · simp only [k, if_true, show ¬ (2 : Int) = 1 from by decide, if_false] at h1 h2; omega
    · simp only [k, if_true, show ¬ (3 : Int) = 1 from by decide, show ¬ (3 : Int) = 2 from by decide, if_false] at h1 h2; omega
    · simp only [k, show ¬ (4 : Int) = 1 from by decide, show ¬ (4 : Int) = 2 from by decide, show ¬ (4 : Int) = 3 from by decide, if_false] at h1 h2
      have p1 := parse_B4 k
      have p2 := parse_B4 (Bs := Bs.take j) (by rw [hget 0 hj0]; exact k)
      have hnum : num (Bs.take j) 22 2 = num Bs 22 2 := by
        unfold num rng
        congr 1
        apply List.map_congr_left
        intro i hi
        have : i < 2 := by simpa using hi
        exact hget _ (by omega)
      simp only [mayB, parse_k, hget 0 hj0, k, Bool.and_eq_true, decide_eq_true_eq, show ¬ (4 : Int) = 1 from by decide, show ¬ (4 : Int) = 2 from by decide, show ¬ (4 : Int) = 3 from by decide, if_false, if_true] at m1 m2
      have s1 := ((sndB_iff _ _).1 m1.2.2.2.2.2).2.1
      have s2 := ((sndB_iff _ _).1 m2.2.2.2.2.2).2.1
      rw [p1.2.1] at s1
      rw [p2.2.1, hnum] at s2
      omega
theorem good_long {Bs : List Int} (h : goodB Bs = true) : 5 ≤ Bs.length ∧ Bs.length ≤ 600 := by
  obtain ⟨m1, e1⟩ := good_parts h
  have h1 := enc_length (x := parse Bs)
  have k2 := may_kind m1
  rw [e1] at h1
  rcases k2 with k | k | k | k
  · simp only [k, if_true] at h1; omega
  · simp only [k, if_true, show ¬ (2 : Int) = 1 from by decide, if_false] at h1; omega
  · simp only [k, if_true, show ¬ (3 : Int) = 1 from by decide, show ¬ (3 : Int) = 2 from by decide, if_false] at h1; omega
  · simp only [k, show ¬ (4 : Int) = 1 from by decide, show ¬ (4 : Int) = 2 from by decide, show ¬ (4 : Int) = 3 from by decide, if_false] at h1
    simp only [mayB, k, Bool.and_eq_true, decide_eq_true_eq, show ¬ (4 : Int) = 1 from by decide, show ¬ (4 : Int) = 2 from by decide, show ¬ (4 : Int) = 3 from by decide, if_false, if_true] at m1
    have := m1.2.2.2.2.1
    omega
end Go.Proofs.Ytokolgelmikfmaa.Pl
