/-
  Words for memory that all walks of this seat share: a slice of bytes that reads as a list; a block that is known whole; the results' shapes.
-/
import Derived.Test.YtokolgelmikfmaaPl
import Derived.WalkKit
import Derived.WalkSpells
import Derived.WalkLawsBesides
import Derived.Deep.Draws
import Derived.Deep.AppendLies
import Derived.Maps.AppendAt
import Derived.OwnWalk
import Derived.Lib.Hide
namespace Go.Proofs.Ytokolgelmikfmaa
open Go.RowKit
set_option linter.unusedVariables false

theorem ret_int {k : IntKind} {a b : Int} (h : a = b) : Ending.returned (.int k a) = .returned (.int k b) := by rw [h]
theorem ret_bool {a b : Bool} (h : a = b) : Ending.returned (.bool a) = .returned (.bool b) := by rw [h]

/-- The i-th of a row of numbers; 0 behind its end. -/
def nth (B : List Int) (i : Nat) : Int := B.getD i 0
/-- Bytes as values. -/
def u8s (B : List Int) : List Value := B.map (Value.int .u8)

theorem u8s_length (B : List Int) : (u8s B).length = B.length := by simp [u8s]
theorem u8s_get {B : List Int} {i : Nat} (h : i < B.length) : (u8s B)[i]? = some (.int .u8 (nth B i)) := by
  simp [u8s, nth, List.getD_eq_getElem?_getD, List.getElem?_eq_getElem h]
theorem u8s_append (B C : List Int) : u8s (B ++ C) = u8s B ++ u8s C := by simp [u8s]
theorem u8s_set (B : List Int) (i : Nat) (x : Int) : u8s (B.set i x) = (u8s B).set i (.int .u8 x) := by simp [u8s]

theorem block_of_add (a : Addr) (n : Nat) : (a.add n).block = a.block := by unfold Addr.add; split <;> rfl

/-- The slice at A reads as the bytes B. -/
def Rd (w : World) (A : Option Addr) (B : List Int) : Prop :=
  B = [] ∨ ∃ g o, A = some ⟨g, o, none⟩ ∧ g < w.heap.size ∧ ∀ i, i < B.length → w.cell? ⟨g, o + i, none⟩ = some (.int .u8 (nth B i))

section
variable {w w' : World} {A : Option Addr} {B : List Int}
theorem Rd.nil (w : World) (A : Option Addr) : Rd w A [] := .inl rfl
theorem Rd.none_ (h : Rd w none B) : B = [] := by
  rcases h with h | ⟨g, o, h, _⟩
  · exact h
  · cases h
theorem Rd.at_ (h : Rd w A B) (hn : 0 < B.length) : ∃ g o, A = some ⟨g, o, none⟩ ∧ g < w.heap.size ∧ ∀ i, i < B.length → w.cell? ⟨g, o + i, none⟩ = some (.int .u8 (nth B i)) := by
  rcases h with rfl | h
  · simp at hn
  · exact h
theorem Rd.keep (h : Rd w A B) (hs : w.heap.size ≤ w'.heap.size) (hk : ∀ p : Addr, p.block < w.heap.size → w'.cell? p = w.cell? p) : Rd w' A B := by
  rcases h with rfl | ⟨g, o, rfl, hg, hc⟩
  · exact .inl rfl
  · exact .inr ⟨g, o, rfl, by omega, fun i hi => (hk _ hg).trans (hc i hi)⟩
theorem Rd.below (h : Rd w A B) (hb : Below w.heap.size w w') : Rd w' A B := h.keep hb.size fun _ hp => hb.cell hp
theorem Rd.alloc (h : Rd w A B) (o : Obj) : Rd (w.alloc o) A B := h.below ((Below.refl _ _).alloc (Nat.le_refl _) o)
theorem Rd.drew (h : Rd w A B) : Rd w.drew A B := h
theorem Rd.drewN (h : Rd w A B) (k : Nat) : Rd (w.drewN k) A B := h
theorem Rd.of_own {base n c : Nat} {e : TypeId} (h : w.ownsRow base e 1 (.slice A n c) n (u8s B)) : Rd w A B := by
  by_cases hn : B = []
  · exact .inl hn
  · have hl : n = B.length := by have := h.1; rw [u8s_length] at this; omega
    have hp : 0 < n := by rw [hl]; cases B <;> simp_all
    obtain ⟨g, cap, hv, _, hlt⟩ := h.form hp
    have hA : A = some ⟨g, 0, none⟩ := by injection hv
    subst hA
    refine .inr ⟨g, 0, rfl, hlt, fun i hi => ?_⟩
    have := h.cells (g := g) rfl i _ (u8s_get hi)
    have e : (⟨g, 0, none⟩ : Addr).add i = ⟨g, 0 + i, none⟩ := by unfold Addr.add; split <;> simp_all
    rwa [e] at this
end

/-! ### A block that is known whole -/
def Blk (w : World) (g : Nat) (t : TypeId) (cs : Array Value) : Prop := w.heap[g]? = some (.cells cs t (0, 0))

section
variable {w w' : World} {g : Nat} {t : TypeId} {cs : Array Value}
theorem Blk.lt (h : Blk w g t cs) : g < w.heap.size := by
  rcases Nat.lt_or_ge g w.heap.size with hlt | hge
  · exact hlt
  · unfold Blk at h; rw [Array.getElem?_eq_none hge] at h; cases h
theorem Blk.cell (h : Blk w g t cs) (i : Nat) : w.cell? ⟨g, i, none⟩ = cs[i]? := cell_of_row w g i cs t (0, 0) h
theorem Blk.frozen (h : Blk w g t cs) (i : Nat) : w.frozen? ⟨g, i, none⟩ = false := by
  unfold Blk at h
  simp [World.frozen?, h]
theorem Blk.new (w : World) (t : TypeId) (cs : Array Value) : Blk (w.alloc (.cells cs t)) w.heap.size t cs := heap_alloc_new w _
theorem Blk.drew (h : Blk w g t cs) : Blk w.drew g t cs := h
theorem Blk.drewN (h : Blk w g t cs) (n : Nat) : Blk (w.drewN n) g t cs := h
theorem Blk.alloc (h : Blk w g t cs) (o : Obj) : Blk (w.alloc o) g t cs := (Below.heap_alloc w o g h.lt).trans h
theorem Blk.set_ (h : Blk w g t cs) (i : Nat) (u : Value) : Blk (w.setCell ⟨g, i, none⟩ u) g t (cs.setIfInBounds i u) := by
  unfold Blk at h ⊢
  simp [World.setCell, Array.getElem?_modify, h]
theorem Blk.far (h : Blk w g t cs) {p : Addr} (hp : g ≠ p.block) (u : Value) : Blk (w.setCell p u) g t cs := (Below.heap_setCell w p u g hp).trans h
theorem Blk.below {B : Nat} (h : Blk w g t cs) (hb : Below B w w') (hg : g < B) : Blk w' g t cs := (hb.block g hg).trans h
theorem Blk.grown {row : Option Nat} (h : Blk w g t cs) (hb : w.grownBy w' row) (hg : some g ≠ row) : Blk w' g t cs := (hb.block g h.lt hg).trans h
theorem Blk.ne_ {g' : Nat} {t' : TypeId} {cs' : Array Value} (h : Blk w g t cs) (h' : Blk w g' t' cs') (hne : t ≠ t') : g ≠ g' := by
  rintro rfl
  unfold Blk at h h'
  rw [h] at h'
  injection h' with h'
  injection h' with _ ht
  exact hne ht
/-- What is owned stays owned behind a store into another block. -/
theorem own_far {base : Nat} {e : TypeId} {size n : Nat} {v : Value} {xs : List Value} (h : w.ownsRow base e size v n xs) {p : Addr} (hne : v.ownBlock ≠ some p.block) (u : Value) : (w.setCell p u).ownsRow base e size v n xs :=
  h.kept (row := some p.block) ⟨rfl, rfl, rfl, by simp, fun k _ hk => Below.heap_setCell _ _ _ _ (fun e => hk (by rw [e]))⟩ (.inr hne)
theorem heap_new_at (w : World) (o : Obj) (H : Nat) (hH : w.heap.size = H) : (w.alloc o).heap[H]? = some o := by subst hH; exact heap_alloc_new w o
theorem own_blk_ne {base : Nat} {e : TypeId} {size n : Nat} {v : Value} {xs : List Value} (h : w.ownsRow base e size v n xs) (hg : Blk w g t cs) (hne : e ≠ t) : v.ownBlock ≠ some g := by
  rcases h.2 with ⟨rfl, _⟩ | ⟨g', cap, cur, rfl, _, hh, _⟩
  · simp [Value.ownBlock]
  · intro he
    have : g' = g := by simpa [Value.ownBlock] using he
    subst this
    exact Blk.ne_ (t := e) hh hg hne rfl
end

/-! ### append of bytes that came in (nil, empty or not) onto a row of the call's own -/
section
variable {P : Program} (w : World)

theorem run_append_of_nil (base : Nat) (t ty e : TypeId) (i : TypeInfo) (size : Nat) (ht : P.underlying t = some (.slice e)) (hi : P.info? e = some i)
    (v : Value) (n : Nat) (xs : List Value) (hown : w.ownsRow base e size v n xs) (c : Nat) : (Builtin.append_ #[t, t] ty #[v, .slice none 0 c]).run P w = .ok v w := by
  rcases hown.2 with ⟨rfl, rfl⟩ | ⟨g, cap, cur, rfl, _, _, hnc, _⟩
  · simp [Builtin.append_, run_underlying ht, sizeOf, typeInfo, hi, Builtin.lenOf, Builtin.firstCells]
  · simp [Builtin.append_, run_underlying ht, sizeOf, typeInfo, hi, Builtin.lenOf, Builtin.firstCells, hnc, storeCells]

theorem u8s_one (B : List Int) : ∀ u ∈ u8s B, u.oneCell' = true := by
  intro u hu
  simp only [u8s, List.mem_map] at hu
  obtain ⟨x, _, rfl⟩ := hu
  rfl

theorem run_append_rd (base : Nat) (t ty e : TypeId) (i : TypeInfo) (z : Value) (ht : P.underlying t = some (.slice e)) (hi : P.info? e = some i) (hz : i.zero = some z)
    (hsize : i.size = 1) (hby : i.bytes = 1) (hzs : z.cells.size = 1)
    (v : Value) (n : Nat) (xs : List Value) (hown : w.ownsRow base e 1 v n xs)
    (A : Option Addr) (c : Nat) (C : List Int) (hr : Rd w A C) (h63 : n + C.length ≤ 140737488355328) (hbase : base ≤ w.heap.size) :
    ∃ v' w', (Builtin.append_ #[t, t] ty #[v, .slice A C.length c]).run P w = .ok v' w' ∧ w'.ownsRow base e 1 v' (n + C.length) (xs ++ u8s C) ∧ w.grownBy w' v.ownBlock ∧
      (v'.ownBlock = v.ownBlock ∨ v'.ownBlock = some w.heap.size) := by
  have hm : n + C.length ≤ maxLen := by unfold maxLen; omega
  have l1 : (u8s C).length = C.length * 1 := by rw [u8s_length]; omega
  rcases A with _ | ad
  · have hC : C = [] := by
      rcases hr with h | ⟨g, o, h, _⟩
      · exact h
      · cases h
    subst hC
    exact ⟨v, w, run_append_of_nil w base t ty e i 1 ht hi v n xs hown c, by simpa [u8s] using hown, World.grownBy.refl w _, .inl rfl⟩
  · have hcells : ∀ j u, (u8s C)[j]? = some u → w.cell? (ad.add j) = some u := by
      intro j u hu
      have hj : j < C.length := by
        rcases Nat.lt_or_ge j C.length with h | h
        · exact h
        · rw [List.getElem?_eq_none (by rw [u8s_length]; exact h)] at hu; cases hu
      obtain ⟨g, o, hA, _, hc⟩ := hr.at_ (by omega)
      injection hA with hA
      subst hA
      rw [u8s_get hj] at hu
      injection hu with hu
      subst hu
      have e : (⟨g, o, none⟩ : Addr).add j = ⟨g, o + j, none⟩ := by unfold Addr.add; split <;> simp_all
      rw [e]
      exact hc j hj
    obtain ⟨v', w', hrun, h2, h3, _, h5⟩ := run_append_own_at (P := P) w base t ty e i z 1 1 ht hi hz hsize hby hzs (by omega) v n xs hown ad C.length c (u8s C) l1 hcells (u8s_one C) hm (by omega) hbase
    exact ⟨v', w', hrun, h2, h3, h5⟩

theorem wp_append_rd {o : Oper} {a : Act} {K : Act → World → Prop} {Q : Exit → Act → World → Prop} (s x : Operand) (t : TypeId)
    (ho : o.op = .call { callee := .builtin .append, args := #[s, x], argTypes := #[t, t] })
    (base : Nat) (e : TypeId) (i : TypeInfo) (z : Value) (ht : P.underlying t = some (.slice e)) (hi : P.info? e = some i) (hz : i.zero = some z)
    (hsize : i.size = 1) (hby : i.bytes = 1) (hzs : z.cells.size = 1)
    (v : Value) (n : Nat) (xs : List Value) (hs : a.eval s = v) (hown : w.ownsRow base e 1 v n xs)
    (A : Option Addr) (c : Nat) (C : List Int) (hx : a.eval x = .slice A C.length c) (hr : Rd w A C) (h63 : n + C.length ≤ 140737488355328) (hbase : base ≤ w.heap.size)
    (h : ∀ v' w', w'.ownsRow base e 1 v' (n + C.length) (xs ++ u8s C) → w.grownBy w' v.ownBlock → (v'.ownBlock = v.ownBlock ∨ v'.ownBlock = some w.heap.size) → K (a.put o.dst v') w') : o.wp P a w K Q := by
  obtain ⟨v', w', hrun, h2, h3, h4⟩ := run_append_rd (P := P) w base t o.type e i z ht hi hz hsize hby hzs v n xs hown A c C hr h63 hbase
  unfold Oper.wp execOp
  simp only [ho, resolve, invoke, builtin, Sem.run_bind, Sem.run_pure, Result.andThen_ok, List.map_toArray, List.map_cons, List.map_nil, hs, hx, hrun]
  exact h v' w' h2 h3 h4

theorem wpList_append_rd {ops : Array Oper} {rest : List Oper} {o : Oper} {a : Act} {Q : Exit → Act → World → Prop} (hgd : o.guard = none) (s x : Operand) (t : TypeId)
    (ho : o.op = .call { callee := .builtin .append, args := #[s, x], argTypes := #[t, t] })
    (base : Nat) (e : TypeId) (i : TypeInfo) (z : Value) (ht : P.underlying t = some (.slice e)) (hi : P.info? e = some i) (hz : i.zero = some z)
    (hsize : i.size = 1) (hby : i.bytes = 1) (hzs : z.cells.size = 1)
    (v : Value) (n : Nat) (xs : List Value) (hs : a.eval s = v) (hown : w.ownsRow base e 1 v n xs)
    (A : Option Addr) (c : Nat) (C : List Int) (hx : a.eval x = .slice A C.length c) (hr : Rd w A C) (h63 : n + C.length ≤ 140737488355328) (hbase : base ≤ w.heap.size)
    (h : ∀ v' w', w'.ownsRow base e 1 v' (n + C.length) (xs ++ u8s C) → w.grownBy w' v.ownBlock → (v'.ownBlock = v.ownBlock ∨ v'.ownBlock = some w.heap.size) → wpList P ops Q rest (a.put o.dst v') w') : wpList P ops Q (o :: rest) a w :=
  wpList_plain hgd fun _ hK => wp_append_rd w s x t ho base e i z ht hi hz hsize hby hzs v n xs hs hown A c C hx hr h63 hbase fun v' w' h2 h3 h4 => hK _ _ (h v' w' h2 h3 h4)
end

theorem own_base {w : World} {base base' n : Nat} {e : TypeId} {size : Nat} {v : Value} {xs : List Value} (h : w.ownsRow base e size v n xs) (hb : base' ≤ base) : w.ownsRow base' e size v n xs := by
  refine ⟨h.1, ?_⟩
  rcases h.2 with h' | ⟨g, cap, cur, hv, hg, r⟩
  · exact .inl h'
  · exact .inr ⟨g, cap, cur, hv, by omega, r⟩

/-- Behind a call that turns nothing old: each old cell and each old mark reads as before. -/
theorem bcell {W w1 : World} (hb : Below W.heap.size W w1) : (∀ b o, b < W.heap.size → w1.cell? ⟨b, o, none⟩ = W.cell? ⟨b, o, none⟩) ∧ (∀ b o, b < W.heap.size → w1.frozen? ⟨b, o, none⟩ = W.frozen? ⟨b, o, none⟩) :=
  ⟨fun b o h => hb.cell (p := ⟨b, o, none⟩) h, fun b o h => hb.frozen (p := ⟨b, o, none⟩) h⟩

/-- What is owned is a slice of so many. -/
theorem own_shape {w : World} {base n : Nat} {e : TypeId} {size : Nat} {v : Value} {xs : List Value} (h : w.ownsRow base e size v n xs) : ∃ A c, v = .slice A n c ∧ n ≤ c := by
  rcases h.2 with ⟨rfl, rfl⟩ | ⟨g, cap, cur, rfl, _, _, hnc, _⟩
  · exact ⟨_, _, rfl, Nat.le_refl _⟩
  · exact ⟨_, _, rfl, hnc⟩

/-- The call answers a row of its own that holds the bytes B; nothing that was there has turned. -/
def RetRow (e8 : TypeId) (B : List Int) (w : World) (e : Ending) (w' : World) : Prop :=
  ∃ A c, e = .returned (.slice A B.length c) ∧ w'.ownsRow w.heap.size e8 1 (.slice A B.length c) B.length (u8s B) ∧ Below w.heap.size w w'

/-- The call answers bits L in a row of its own, and no error. -/
def RetBits (e8 : TypeId) (k : IntKind) (L : List Bool) (w : World) (e : Ending) (w' : World) : Prop :=
  ∃ A c B, e = .returned (.tuple #[.agg #[.slice A B.length c, .int .i64 (L.length : Int)], .int k 0]) ∧ Pl.Packs B L ∧ w'.ownsRow w.heap.size e8 1 (.slice A B.length c) B.length (u8s B) ∧ Below w.heap.size w w'
/-- The call answers an error, and no bits. -/
def RetNone (k : IntKind) (x : Int) (w : World) (e : Ending) (w' : World) : Prop :=
  e = .returned (.tuple #[.agg #[.slice none 0 0, .int .i64 0], .int k x]) ∧ Below w.heap.size w w'

end Go.Proofs.Ytokolgelmikfmaa
