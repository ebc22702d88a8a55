/- Words of this claim's own for memory: a slice that reads as a list of cells; facts of the element types; small laws on worlds. -/
import Derived.Test.YtkdpdlboggggoaaGreatDoorProg
import Derived.WalkKit
import Derived.ProofKit
import Derived.WalkSpells
import Derived.WalkLawsBesides
import Derived.Lib.Hide
import Derived.IntWalk
import Derived.Maps.AppendAt
import Derived.Outline
namespace Go.Proofs.YtkdpdlboggggoaaGreatDoor
open Go.RowKit

theorem add_block (a : Addr) (n : Nat) : (a.add n).block = a.block := by unfold Addr.add; split <;> rfl

theorem add_add (a : Addr) (i j : Nat) : (a.add i).add j = a.add (i + j) := by
  unfold Addr.add
  by_cases hi : i = 0 <;> by_cases hj : j = 0 <;> simp [hi, hj, Nat.add_assoc]

/-- A slice's first cells: with an element there is an address, in a block below B, and each cell reads so. -/
def Sl (w : World) (B : Nat) (A : Option Addr) (xs : List Value) : Prop :=
  xs ≠ [] → ∃ ad, A = some ad ∧ ad.block < B ∧ ∀ j u, xs[j]? = some u → w.cell? (ad.add j) = some u

theorem Sl.nil (w : World) (B : Nat) (A : Option Addr) : Sl w B A [] := fun h => absurd rfl h

theorem Sl.at_ {w : World} {B : Nat} {A : Option Addr} {xs : List Value} (h : Sl w B A xs) {k : Nat} (hk : k < xs.length) :
    ∃ ad, A = some ad ∧ ad.block < B ∧ w.cell? (ad.add k) = some xs[k] := by
  obtain ⟨ad, e, hb, hc⟩ := h (by intro e; rw [e] at hk; exact absurd hk (Nat.not_lt_zero _))
  exact ⟨ad, e, hb, hc k _ (List.getElem?_eq_getElem hk)⟩

theorem Sl.keep {w w' : World} {B : Nat} {A : Option Addr} {xs : List Value} (h : Sl w B A xs) (hk : ∀ p : Addr, p.block < B → w'.cell? p = w.cell? p) : Sl w' B A xs := by
  intro hx
  obtain ⟨ad, e, hb, hc⟩ := h hx
  exact ⟨ad, e, hb, fun j u hu => (hk _ (by rw [add_block]; exact hb)).trans (hc j u hu)⟩

theorem Sl.more {w : World} {B B' : Nat} {A : Option Addr} {xs : List Value} (h : Sl w B A xs) (hB : B ≤ B') : Sl w B' A xs := by
  intro hx
  obtain ⟨ad, e, hb, hc⟩ := h hx
  exact ⟨ad, e, by omega, hc⟩

theorem Sl.below {w w' : World} {B : Nat} {A : Option Addr} {xs : List Value} (h : Sl w B A xs) (hb : Below B w w') : Sl w' B A xs :=
  h.keep fun _ hp => hb.cell hp

/-- What a row of the call's own holds is what its slice reads. -/
theorem Sl.own {w : World} {base e n : Nat} {A : Option Addr} {c : Nat} {xs : List Value} (h : w.ownsRow base e 1 (.slice A n c) n xs) : Sl w w.heap.size A xs := by
  intro hx
  rcases h.2 with ⟨hv, hn⟩ | ⟨g, cap, cur, hv, _, hg, _⟩
  · exact absurd (List.eq_nil_of_length_eq_zero (by rw [h.1, hn])) hx
  · injection hv with hA
    subst hA
    exact ⟨_, rfl, (Array.getElem?_eq_some_iff.1 hg).1, h.cells (g := g) rfl⟩

theorem own_form {w : World} {base e n : Nat} {v : Value} {xs : List Value} (h : w.ownsRow base e 1 v n xs) : ∃ A c, v = .slice A n c := by
  rcases h.2 with ⟨hv, hn⟩ | ⟨g, cap, cur, hv, _⟩
  · rw [hn]; exact ⟨_, _, hv⟩
  · exact ⟨_, _, hv⟩

/-- append(out, x): one element, out a row of the call's own. The law of the walk with its constant parts filled in. -/
theorem app_one {P : Program} {ops : Array Oper} {rest : List Oper} {o : Oper} {a : Act} {w : World} {Q : Exit → Act → World → Prop} (hgd : o.guard = none) (s x : Operand) (t e : TypeId)
    (ho : o.op = .call { callee := .builtin .append, args := #[s, x], argTypes := #[t, t] })
    (i : TypeInfo) (z : Value) (bytes : Nat) (ht : P.underlying t = some (.slice e)) (hi : P.info? e = some i) (hz : i.zero = some z) (hsize : i.size = 1) (hby : i.bytes = bytes) (hzs : z.cells.size = 1)
    (base : Nat) (v : Value) (n : Nat) (xs : List Value) (hs : a.eval s = v) (W : World) (u : Value) (hw : w = W.alloc (.cells #[u] e)) (hown : W.ownsRow base e 1 v n xs) (hx : a.eval x = .slice (some ⟨W.heap.size, 0, none⟩) 1 1)
    (h1 : u.oneCell' = true) (hbytes : (n + 1) * bytes ≤ 140737488355328) (hb0 : 0 < bytes) (hbase : base ≤ W.heap.size)
    (h : ∀ A c w', w'.ownsRow base e 1 (.slice A (n + 1) c) (n + 1) (xs ++ [u]) → w.grownBy w' v.ownBlock → ((Value.slice A (n + 1) c).ownBlock = v.ownBlock ∨ (Value.slice A (n + 1) c).ownBlock = some w.heap.size) →
      wpList P ops Q rest (a.put o.dst (.slice A (n + 1) c)) w') :
    wpList P ops Q (o :: rest) a w := by
  subst hw
  have hn : (n + 1) * 1 ≤ (n + 1) * bytes := Nat.mul_le_mul_left _ hb0
  refine wpList_append_own_at _ hgd s x t ho base e i z 1 bytes ht hi hz hsize hby hzs (by omega) v n xs hs (hown.alloc _) ⟨W.heap.size, 0, none⟩ 1 1 [u] hx rfl (cell_one_new _ _ _) (by simpa using h1)
    (by simp only [maxLen]; omega) hbytes (by simp; omega) ?_
  intro v' w' h2 h3 _ h5
  obtain ⟨A, c, rfl⟩ := own_form h2
  exact h A c w' h2 h3 h5

/-- The same for a region that draws its order. -/
theorem step_app_one {P : Program} {ops : Array Oper} {o : Oper} {a : Act} {w : World} {K : Act → World → Prop} {Q : Exit → Act → World → Prop} {E : Prop} (hgd : o.guard = none) (s x : Operand) (t e : TypeId)
    (ho : o.op = .call { callee := .builtin .append, args := #[s, x], argTypes := #[t, t] })
    (i : TypeInfo) (z : Value) (bytes : Nat) (ht : P.underlying t = some (.slice e)) (hi : P.info? e = some i) (hz : i.zero = some z) (hsize : i.size = 1) (hby : i.bytes = bytes) (hzs : z.cells.size = 1)
    (base : Nat) (v : Value) (n : Nat) (xs : List Value) (hs : a.eval s = v) (W : World) (u : Value) (hw : w = W.alloc (.cells #[u] e)) (hown : W.ownsRow base e 1 v n xs) (hx : a.eval x = .slice (some ⟨W.heap.size, 0, none⟩) 1 1)
    (h1 : u.oneCell' = true) (hbytes : (n + 1) * bytes ≤ 140737488355328) (hb0 : 0 < bytes) (hbase : base ≤ W.heap.size)
    (h : ∀ A c w', w'.ownsRow base e 1 (.slice A (n + 1) c) (n + 1) (xs ++ [u]) → w.grownBy w' v.ownBlock → K (a.put o.dst (.slice A (n + 1) c)) w') :
    if Region.wanted o (yielded ops a.tmps) = true then Oper.wp P o a w K Q else E := by
  have hwd : Region.wanted o (yielded ops a.tmps) = true := by simp [Region.wanted, hgd]
  rw [if_pos hwd]
  subst hw
  have hn : (n + 1) * 1 ≤ (n + 1) * bytes := Nat.mul_le_mul_left _ hb0
  obtain ⟨v', w', hr, h2, h3, _, _⟩ := run_append_own_at (P := P) (W.alloc (.cells #[u] e)) base t o.type e i z 1 bytes ht hi hz hsize hby hzs (by omega) v n xs (hown.alloc _) ⟨W.heap.size, 0, none⟩ 1 1 [u] rfl (cell_one_new _ _ _)
    (by simpa using h1) (by simp only [maxLen]; omega) hbytes (by simp; omega)
  obtain ⟨A, c, rfl⟩ := own_form h2
  unfold Oper.wp execOp
  simp only [ho, resolve, invoke, builtin, Sem.run_bind, Sem.run_pure, Result.andThen_ok, List.map_toArray, List.map_cons, List.map_nil, hs, hx, hr]
  exact h A c w' h2 h3

/-- append(out, xs...): the source not nil. -/
theorem app_many {P : Program} {ops : Array Oper} {rest : List Oper} {o : Oper} {a : Act} {w : World} {Q : Exit → Act → World → Prop} (hgd : o.guard = none) (s x : Operand) (t e : TypeId)
    (ho : o.op = .call { callee := .builtin .append, args := #[s, x], argTypes := #[t, t] })
    (i : TypeInfo) (z : Value) (bytes : Nat) (ht : P.underlying t = some (.slice e)) (hi : P.info? e = some i) (hz : i.zero = some z) (hsize : i.size = 1) (hby : i.bytes = bytes) (hzs : z.cells.size = 1)
    (base : Nat) (v : Value) (n : Nat) (xs : List Value) (hs : a.eval s = v) (hown : w.ownsRow base e 1 v n xs) (ad : Addr) (m c : Nat) (hx : a.eval x = .slice (some ad) m c) (news : List Value) (hl : news.length = m)
    (hsl : ∀ j u, news[j]? = some u → w.cell? (ad.add j) = some u)
    (h1 : ∀ u ∈ news, u.oneCell' = true) (hbytes : (n + m) * bytes ≤ 140737488355328) (hb0 : 0 < bytes) (hbase : base ≤ w.heap.size)
    (h : ∀ A c w', w'.ownsRow base e 1 (.slice A (n + m) c) (n + m) (xs ++ news) → w.grownBy w' v.ownBlock → ((Value.slice A (n + m) c).ownBlock = v.ownBlock ∨ (Value.slice A (n + m) c).ownBlock = some w.heap.size) →
      wpList P ops Q rest (a.put o.dst (.slice A (n + m) c)) w') :
    wpList P ops Q (o :: rest) a w := by
  have hn : (n + m) * 1 ≤ (n + m) * bytes := Nat.mul_le_mul_left _ hb0
  refine wpList_append_own_at _ hgd s x t ho base e i z 1 bytes ht hi hz hsize hby hzs (by omega) v n xs hs hown ad m c news hx (by omega) hsl h1
    (by simp only [maxLen]; omega) hbytes hbase ?_
  intro v' w' h2 h3 _ h5
  obtain ⟨A, c, rfl⟩ := own_form h2
  exact h A c w' h2 h3 h5

theorem oneCell_bools (bs : List Bool) : ∀ u ∈ bs.map Value.bool, u.oneCell' = true := by
  intro u hu
  obtain ⟨b, _, rfl⟩ := List.mem_map.1 hu
  rfl

theorem oneCell_ints (bs : List Int) : ∀ u ∈ bs.map (Value.int .i64), u.oneCell' = true := by
  intro u hu
  obtain ⟨b, _, rfl⟩ := List.mem_map.1 hu
  rfl

/-- The empty row that a literal without elements lays. -/
theorem own_made0 (w : World) (e : TypeId) : (w.alloc (.cells #[] e)).ownsRow w.heap.size e 1 (.slice (some ⟨w.heap.size, 0, none⟩) 0 0) 0 [] :=
  World.ownsRow_made w #[] 0 (Nat.le_refl _) (Nat.zero_le _) rfl

theorem below_app {B : Nat} {a w w' : World} {v : Value} {base e n : Nat} {xs : List Value} {o : Obj} (h : Below B a w) (hB : B ≤ w.heap.size) (hown : w.ownsRow base e 1 v n xs) (hb : B ≤ base) (hg : (w.alloc o).grownBy w' v.ownBlock) : Below B a w' :=
  (h.alloc hB o).grown hg (by simp; omega) (fun k hk => Nat.le_trans hb (hown.lt k hk).1)

theorem own_nil' (w : World) (base e : Nat) : w.ownsRow base e 1 (.slice none 0 0) 0 [] := World.ownsRow_nil w base e 1

/-- The element type of a block of cells. -/
def tyAt (w : World) (b : Nat) : Option TypeId := match w.heap[b]? with
  | some (.cells _ e _) => some e
  | _ => none

theorem tyAt_lt {w : World} {b : Nat} {T : TypeId} (h : tyAt w b = some T) : b < w.heap.size := by
  rcases Nat.lt_or_ge b w.heap.size with hl | hl
  · exact hl
  · unfold tyAt at h; rw [Array.getElem?_eq_none hl] at h; cases h

theorem tyAt_same {w w' : World} {b : Nat} (h : w'.heap[b]? = w.heap[b]?) : tyAt w' b = tyAt w b := by unfold tyAt; rw [h]

theorem tyAt_own {w : World} {base e n size g : Nat} {v : Value} {xs : List Value} (h : w.ownsRow base e size v n xs) (hg : v.ownBlock = some g) : tyAt w g = some e := by
  rcases h.2 with ⟨hv, _⟩ | ⟨g', cap, cur, hv, _, hh, _⟩
  · subst hv; simp [Value.ownBlock] at hg
  · subst hv
    have : g' = g := by simpa [Value.ownBlock] using hg
    subst this
    unfold tyAt
    rw [hh]

/-- As 'Sl', the block's element type told in the place of a bound: two slices of different element types never share a block. -/
def SlT (w : World) (T : TypeId) (A : Option Addr) (xs : List Value) : Prop :=
  xs ≠ [] → ∃ ad, A = some ad ∧ tyAt w ad.block = some T ∧ ∀ j u, xs[j]? = some u → w.cell? (ad.add j) = some u

theorem SlT.nil (w : World) (T : TypeId) (A : Option Addr) : SlT w T A [] := fun h => absurd rfl h

theorem SlT.at_ {w : World} {T : TypeId} {A : Option Addr} {xs : List Value} (h : SlT w T A xs) {k : Nat} (hk : k < xs.length) :
    ∃ ad, A = some ad ∧ tyAt w ad.block = some T ∧ w.cell? (ad.add k) = some xs[k] := by
  obtain ⟨ad, e, hb, hc⟩ := h (by intro e; rw [e] at hk; exact absurd hk (Nat.not_lt_zero _))
  exact ⟨ad, e, hb, hc k _ (List.getElem?_eq_getElem hk)⟩

theorem SlT.keep {w w' : World} {T : TypeId} {A : Option Addr} {xs : List Value} (h : SlT w T A xs) (hk : ∀ b, tyAt w b = some T → w'.heap[b]? = w.heap[b]?) : SlT w' T A xs := by
  intro hx
  obtain ⟨ad, e, hb, hc⟩ := h hx
  exact ⟨ad, e, (tyAt_same (hk _ hb)).trans hb, fun j u hu => (World.cell?_of_block (by rw [add_block]; exact hk _ hb)).trans (hc j u hu)⟩

theorem SlT.below {w w' : World} {T : TypeId} {A : Option Addr} {xs : List Value} (h : SlT w T A xs) (hb : Below w.heap.size w w') : SlT w' T A xs :=
  h.keep fun b ht => hb.block b (tyAt_lt ht)

theorem SlT.alloc {w : World} {T : TypeId} {A : Option Addr} {xs : List Value} (h : SlT w T A xs) (o : Obj) : SlT (w.alloc o) T A xs :=
  h.keep fun b ht => Below.heap_alloc w o b (tyAt_lt ht)

theorem SlT.grown {w w' : World} {T : TypeId} {A : Option Addr} {xs : List Value} {row : Option Nat} (h : SlT w T A xs) (hg : w.grownBy w' row) (hr : ∀ g, row = some g → tyAt w g ≠ some T) : SlT w' T A xs :=
  h.keep fun b ht => hg.block b (tyAt_lt ht) (fun e => hr b e.symm ht)

theorem SlT.own {w : World} {base e n : Nat} {A : Option Addr} {c : Nat} {xs : List Value} (h : w.ownsRow base e 1 (.slice A n c) n xs) : SlT w e A xs := by
  intro hx
  rcases h.2 with ⟨hv, hn⟩ | ⟨g, cap, cur, hv, _, hg, _⟩
  · exact absurd (List.eq_nil_of_length_eq_zero (by rw [h.1, hn])) hx
  · injection hv with hA
    subst hA
    exact ⟨_, rfl, by unfold tyAt; rw [hg], h.cells (g := g) rfl⟩

theorem tyAt_blk {w : World} {g : Nat} {T : TypeId} {cs : Array Value} {f : Nat × Nat} (h : w.heap[g]? = some (.cells cs T f)) : tyAt w g = some T := by unfold tyAt; rw [h]

theorem tyAt_setCell (w : World) (p : Addr) (v : Value) (b : Nat) : tyAt (w.setCell p v) b = tyAt w b := by
  unfold tyAt World.setCell
  simp only [Array.getElem?_modify]
  by_cases h : p.block = b
  · rw [if_pos h]
    cases hb : w.heap[b]? with
    | none => rfl
    | some o => cases o <;> rfl
  · rw [if_neg h]

theorem SlT.setCell {w : World} {T : TypeId} {A : Option Addr} {xs : List Value} (h : SlT w T A xs) {p : Addr} (v : Value) (hp : tyAt w p.block ≠ some T) : SlT (w.setCell p v) T A xs :=
  h.keep fun b ht => Below.heap_setCell w p v b (fun e => hp (by rw [← e]; exact ht))

theorem SlT.sl {w : World} {T : TypeId} {A : Option Addr} {xs : List Value} (h : SlT w T A xs) : Sl w w.heap.size A xs := by
  intro hx
  obtain ⟨ad, e, hb, hc⟩ := h hx
  exact ⟨ad, e, tyAt_lt hb, hc⟩

/-- Slice values that each read as a list of bools. -/
def BRow (w : World) (T : TypeId) (v : Value) (bs : List Bool) : Prop := ∃ A c, v = .slice A bs.length c ∧ SlT w T A (bs.map .bool)
def BRows (w : World) (T : TypeId) (vs : List Value) (rows : List (List Bool)) : Prop := vs.length = rows.length ∧ ∀ (i : Nat) (v : Value) (bs : List Bool), vs[i]? = some v → rows[i]? = some bs → BRow w T v bs

theorem BRow.keep {w w' : World} {T : TypeId} {v : Value} {bs : List Bool} (h : BRow w T v bs) (hk : ∀ b, tyAt w b = some T → w'.heap[b]? = w.heap[b]?) : BRow w' T v bs := by
  obtain ⟨A, c, e, hs⟩ := h
  exact ⟨A, c, e, hs.keep hk⟩
theorem BRows.keep {w w' : World} {T : TypeId} {vs : List Value} {rows : List (List Bool)} (h : BRows w T vs rows) (hk : ∀ b, tyAt w b = some T → w'.heap[b]? = w.heap[b]?) : BRows w' T vs rows :=
  ⟨h.1, fun i v bs hv hr => (h.2 i v bs hv hr).keep hk⟩
theorem BRows.below {w w' : World} {T : TypeId} {vs : List Value} {rows : List (List Bool)} (h : BRows w T vs rows) (hb : Below w.heap.size w w') : BRows w' T vs rows :=
  h.keep fun b ht => hb.block b (tyAt_lt ht)
theorem BRows.alloc {w : World} {T : TypeId} {vs : List Value} {rows : List (List Bool)} (h : BRows w T vs rows) (o : Obj) : BRows (w.alloc o) T vs rows :=
  h.keep fun b ht => Below.heap_alloc w o b (tyAt_lt ht)
theorem BRows.grown {w w' : World} {T : TypeId} {vs : List Value} {rows : List (List Bool)} {row : Option Nat} (h : BRows w T vs rows) (hg : w.grownBy w' row) (hr : ∀ g, row = some g → tyAt w g ≠ some T) : BRows w' T vs rows :=
  h.keep fun b ht => hg.block b (tyAt_lt ht) (fun e => hr b e.symm ht)
theorem BRows.nil (w : World) (T : TypeId) : BRows w T [] [] := ⟨rfl, fun i v bs h _ => by simp at h⟩
theorem BRows.snoc {w : World} {T : TypeId} {vs : List Value} {rows : List (List Bool)} {v : Value} {bs : List Bool} (h : BRows w T vs rows) (h1 : BRow w T v bs) : BRows w T (vs ++ [v]) (rows ++ [bs]) := by
  refine ⟨by simp [h.1], fun i x b hx hb => ?_⟩
  rcases Nat.lt_or_ge i vs.length with hl | hl
  · rw [List.getElem?_append_left hl] at hx
    rw [List.getElem?_append_left (by rw [← h.1]; exact hl)] at hb
    exact h.2 i x b hx hb
  · rw [List.getElem?_append_right hl] at hx
    rw [List.getElem?_append_right (by rw [← h.1]; exact hl), ← h.1] at hb
    cases hk : i - vs.length with
    | zero =>
      rw [hk] at hx hb
      simp at hx hb
      subst hx
      subst hb
      exact h1
    | succ m => rw [hk] at hx; simp at hx
theorem BRows.at_ {w : World} {T : TypeId} {vs : List Value} {rows : List (List Bool)} (h : BRows w T vs rows) {k : Nat} (hk : k < rows.length) :
    ∃ A c, vs[k]? = some (.slice A (rows[k]).length c) ∧ SlT w T A ((rows[k]).map .bool) := by
  have hk' : k < vs.length := by rw [h.1]; exact hk
  obtain ⟨A, c, e, hs⟩ := h.2 k _ _ (List.getElem?_eq_getElem hk') (List.getElem?_eq_getElem hk)
  exact ⟨A, c, by rw [List.getElem?_eq_getElem hk', e], hs⟩

theorem info_bool : (Tryz.prog.info? 4).map (fun i => (i.zero, i.size, i.bytes)) = some (some (.bool false), 1, 1) := by kernel_rfl
theorem info_int : (Tryz.prog.info? 3).map (fun i => (i.zero, i.size, i.bytes)) = some (some (.int .i64 0), 1, 8) := by kernel_rfl
theorem info_bools : (Tryz.prog.info? 29).map (fun i => (i.zero, i.size, i.bytes)) = some (some (.slice none 0 0), 1, 24) := by kernel_rfl
theorem info_ints : (Tryz.prog.info? 22).map (fun i => (i.zero, i.size, i.bytes)) = some (some (.slice none 0 0), 1, 24) := by kernel_rfl

end Go.Proofs.YtkdpdlboggggoaaGreatDoor
