/- The run of first(): Norm of no literals; append of one element of several cells to nil; Prop.look. -/
import Derived.Test.YtkdpdlboggggoaaGreatDoorFh
import Derived.Test.YtkdpdlboggggoaaGreatDoorFi
namespace Go.Proofs.YtkdpdlboggggoaaGreatDoor
open Go.RowKit

theorem norm0 (q c : Nat) (w : World) : Calls Tryz.prog 72 #[.slice (some ⟨q, 0, none⟩) 0 c] w fun e w' => ∃ B d, e = .returned (.tuple #[.slice B 0 d, .bool true]) ∧ Ext w w' := by
  go_enter Tryz.func72, Tryz.ntmps72
  go_wp2_with fail
  refine (CloneI_any (some ⟨q, 0, none⟩) 0 c [] _ rfl (by omega) (Sl.nil _ _ _)).mono ?_
  rintro e w1 ⟨A1, c1, rfl, _, hw1⟩
  go_wp2_with (first | (go_at_call 100; refine (sortI0 _ _ _ _).mono ?_; rintro e w' ⟨rfl, rfl⟩) | (go_at_call 103; refine (compI0 _ _ _).mono ?_; rintro e w' ⟨rfl, rfl⟩) | (go_at_call 102; refine (clipI0 _ _ _).mono ?_; rintro e w' ⟨⟨B, d, rfl⟩, rfl⟩))
  refine wp_loop_rounds 1 ?_
  rw [rounds_succ]
  go_wp2_with fail
  go_ret2
  exact ⟨B, d, rfl, hw1⟩

theorem add_head (g j : Nat) : (⟨g, 0, none⟩ : Addr).add j = ⟨g, j, none⟩ := by
  unfold Addr.add
  split <;> simp_all

/-- append(nil, x): x of several cells. -/
theorem app_nilN {P : Program} {ops : Array Oper} {rest : List Oper} {o : Oper} {a : Act} {w : World} {Q : Exit → Act → World → Prop} (hgd : o.guard = none) (s x : Operand) (t e : TypeId)
    (ho : o.op = .call { callee := .builtin .append, args := #[s, x], argTypes := #[t, t] })
    (i : TypeInfo) (z : Value) (size bytes : Nat) (ht : P.underlying t = some (.slice e)) (hi : P.info? e = some i) (hz : i.zero = some z) (hsize : i.size = size) (hby : i.bytes = bytes) (hzs : z.cells.size = size) (hsz : 0 < size)
    (hs : a.eval s = .slice none 0 0) (g : Nat) (us : List Value) (hx : a.eval x = .slice (some ⟨g, 0, none⟩) 1 1) (hl : us.length = size) (hus : w.heap[g]? = some (.cells us.toArray e (0, 0)))
    (h1 : ∀ u ∈ us, u.oneCell' = true) (hbytes : bytes ≤ 140737488355328)
    (h : ∀ q c cur w', w'.heap[q]? = some (.cells cur e (0, 0)) → cur.toList.take size = us → w.heap.size ≤ q → Ext w w' → wpList P ops Q rest (a.put o.dst (.slice (some ⟨q, 0, none⟩) 1 c)) w') :
    wpList P ops Q (o :: rest) a w := by
  refine wpList_append_own_at _ hgd s x t ho w.heap.size e i z size bytes ht hi hz hsize hby hzs hsz (.slice none 0 0) 0 [] hs (World.ownsRow_nil _ _ _ _) ⟨g, 0, none⟩ 1 1 us hx (by omega)
    (fun j u hj => by rw [add_head]; rw [cell_of_row w g _ _ _ _ hus]; simpa using hj) h1
    (by simp only [maxLen]; omega) (by omega) (Nat.le_refl _) ?_
  intro v' w' h2 h3 _ h5
  rcases h2.2 with ⟨hv, h0⟩ | ⟨q, cap, cur, hv, hb, hg, hnc, _, hcs, ht'⟩
  · omega
  · subst hv
    exact h q cap cur w' hg (by simpa using ht') hb (Ext.grown h3)

/-- The same for a region that draws its order. -/
theorem step_app_nilN {P : Program} {ops : Array Oper} {o : Oper} {a : Act} {w : World} {K : Act → World → Prop} {Q : Exit → Act → World → Prop} {E : Prop} (hgd : o.guard = none) (s x : Operand) (t e : TypeId)
    (ho : o.op = .call { callee := .builtin .append, args := #[s, x], argTypes := #[t, t] })
    (i : TypeInfo) (z : Value) (size bytes : Nat) (ht : P.underlying t = some (.slice e)) (hi : P.info? e = some i) (hz : i.zero = some z) (hsize : i.size = size) (hby : i.bytes = bytes) (hzs : z.cells.size = size) (hsz : 0 < size)
    (hs : a.eval s = .slice none 0 0) (g : Nat) (us : List Value) (hx : a.eval x = .slice (some ⟨g, 0, none⟩) 1 1) (hl : us.length = size) (hus : w.heap[g]? = some (.cells us.toArray e (0, 0)))
    (h1 : ∀ u ∈ us, u.oneCell' = true) (hbytes : bytes ≤ 140737488355328)
    (h : ∀ q c cur w', w'.heap[q]? = some (.cells cur e (0, 0)) → cur.toList.take size = us → w.heap.size ≤ q → Ext w w' → K (a.put o.dst (.slice (some ⟨q, 0, none⟩) 1 c)) w') :
    if Region.wanted o (yielded ops a.tmps) = true then Oper.wp P o a w K Q else E := by
  have hwd : Region.wanted o (yielded ops a.tmps) = true := by simp [Region.wanted, hgd]
  rw [if_pos hwd]
  obtain ⟨v', w', hr, h2, h3, _, _⟩ := run_append_own_at (P := P) w w.heap.size t o.type e i z size bytes ht hi hz hsize hby hzs hsz (.slice none 0 0) 0 [] (World.ownsRow_nil _ _ _ _) ⟨g, 0, none⟩ 1 1 us (by omega)
    (fun j u hj => by rw [add_head]; rw [cell_of_row w g _ _ _ _ hus]; simpa using hj) h1 (by simp only [maxLen]; omega) (by omega) (Nat.le_refl _)
  rcases h2.2 with ⟨hv, h0⟩ | ⟨q, cap, cur, hv, hb, hg, hnc, _, hcs, ht'⟩
  · omega
  · subst hv
    unfold Oper.wp execOp
    simp only [ho, resolve, invoke, builtin, Sem.run_bind, Sem.run_pure, Result.andThen_ok, List.map_toArray, List.map_cons, List.map_nil, hs, hx, hr]
    exact h q cap cur w' hg (by simpa using ht') hb (Ext.grown h3)

/-- A Prop over no variables. -/
def PC (a : Nat) (lv rs wt : Nat) (c lo : Value) : Array Value := #[.pointer (some ⟨a, 0, none⟩), .slice (some ⟨lv, 0, none⟩) 1 1, .slice (some ⟨rs, 0, none⟩) 1 1, .slice none 0 0, .slice none 0 0, .int .i64 0, c, .slice (some ⟨wt, 0, none⟩) 2 2, lo]

/-- All that there was stands as it stood, but two blocks. -/
structure But2 (p q : Nat) (w w' : World) : Prop where
  os : w'.os = w.os
  tape : w'.tape = w.tape
  output : w'.output = w.output
  size : w.heap.size ≤ w'.heap.size
  block : ∀ k, k < w.heap.size → k ≠ p → k ≠ q → w'.heap[k]? = w.heap[k]?

theorem But2.refl (p q : Nat) (w : World) : But2 p q w w := ⟨rfl, rfl, rfl, Nat.le_refl _, fun _ _ _ _ => rfl⟩
theorem But2.ext {p q : Nat} {a b c : World} (h : But2 p q a b) (k : Ext b c) : But2 p q a c :=
  ⟨k.os.trans h.os, k.tape.trans h.tape, k.output.trans h.output, Nat.le_trans h.size k.size, fun i hi h1 h2 => (k.block i (Nat.lt_of_lt_of_le hi h.size)).trans (h.block i hi h1 h2)⟩
theorem But2.trans {p q : Nat} {a b c : World} (h : But2 p q a b) (k : But2 p q b c) : But2 p q a c :=
  ⟨k.os.trans h.os, k.tape.trans h.tape, k.output.trans h.output, Nat.le_trans h.size k.size, fun i hi h1 h2 => (k.block i (Nat.lt_of_lt_of_le hi h.size) h1 h2).trans (h.block i hi h1 h2)⟩
theorem But2.of_ext {p q : Nat} {a b : World} (h : Ext a b) : But2 p q a b := (But2.refl p q a).ext h
theorem But2.set {p q : Nat} {a b : World} (h : But2 p q a b) (ad : Addr) (v : Value) (hb : ad.block = p ∨ ad.block = q) : But2 p q a (b.setCell ad v) :=
  ⟨h.os, h.tape, h.output, by simpa [World.setCell] using h.size, fun k hk h1 h2 => (Below.heap_setCell b _ _ k (fun e => by rcases hb with hb | hb <;> omega)).trans (h.block k hk h1 h2)⟩
theorem But2.new {p q : Nat} {o a b : World} (x : Ext o a) (h : But2 p q a b) (hp : o.heap.size ≤ p) (hq : o.heap.size ≤ q) : Ext o b :=
  ⟨h.os.trans x.os, h.tape.trans x.tape, h.output.trans x.output, Nat.le_trans x.size h.size, fun k hk => (h.block k (Nat.lt_of_lt_of_le hk x.size) (by omega) (by omega)).trans (x.block k hk)⟩
theorem set_blk {w : World} {g : Nat} {T : TypeId} {cs : Array Value} (h : w.heap[g]? = some (.cells cs T (0, 0))) (i : Nat) (v : Value) :
    (w.setCell ⟨g, i, none⟩ v).heap[g]? = some (.cells (cs.setIfInBounds i v) T (0, 0)) := by
  rw [World.setCell]
  simp only [Array.getElem?_modify, if_true, h]
  rfl

theorem set_other {w : World} {g k : Nat} {o : Obj} (h : w.heap[k]? = some o) (i : Nat) (v : Value) (hne : k ≠ g) : (w.setCell ⟨g, i, none⟩ v).heap[k]? = some o :=
  (Below.heap_setCell w _ _ k (fun e => hne e)).trans h

theorem size_set (w : World) (a : Addr) (v : Value) : (w.setCell a v).heap.size = w.heap.size := by simp [World.setCell]

theorem take3_at {cur : Array Value} {a b c : Value} (h : cur.toList.take 3 = [a, b, c]) : cur[0]? = some a ∧ cur[1]? = some b ∧ cur[2]? = some c := by
  refine ⟨?_, ?_, ?_⟩
  · have : (cur.toList.take 3)[0]? = some a := by rw [h]; rfl
    simpa using this
  · have : (cur.toList.take 3)[1]? = some b := by rw [h]; rfl
    simpa using this
  · have : (cur.toList.take 3)[2]? = some c := by rw [h]; rfl
    simpa using this

theorem take3_set {cur : Array Value} {a b c : Value} (h : cur.toList.take 3 = [a, b, c]) (v : Value) : (cur.setIfInBounds 2 v).toList.take 3 = [a, b, v] := by
  rw [Array.toList_setIfInBounds, List.take_set, h]
  rfl

set_option maxRecDepth 100000 in
set_option maxHeartbeats 1000000 in
theorem f_look (p a lv rs wt cb cc : Nat) (cur : Array Value) (l : Value) (w : World) (hp : w.heap[p]? = some (.cells (PC a lv rs wt (.slice (some ⟨cb, 0, none⟩) 1 cc) (.slice none 0 0)) 120 (0, 0)))
    (hc : w.heap[cb]? = some (.cells cur 124 (0, 0))) (ht : cur.toList.take 3 = [l, .bool true, .bool false]) (hne : p ≠ cb) :
    Calls Tryz.prog 75 #[.pointer (some ⟨p, 0, none⟩), .int .i64 0] w fun e w' => e = .returned (.tuple #[]) ∧ ∃ lb lc cur', w'.heap[p]? = some (.cells (PC a lv rs wt (.slice (some ⟨cb, 0, none⟩) 1 cc) (.slice (some ⟨lb, 0, none⟩) 1 lc)) 120 (0, 0)) ∧
      w'.heap[cb]? = some (.cells cur' 124 (0, 0)) ∧ cur'.toList.take 3 = [l, .bool true, .bool true] ∧ w'.cell? ⟨lb, 0, none⟩ = some (.int .i64 0) ∧ w.heap.size ≤ lb ∧ But2 p cb w w' := by
  obtain ⟨i0, hi, hz0, hz1, hz2⟩ := info_parts info_int
  have k6 : w.cell? ⟨p, 6, none⟩ = some (.slice (some ⟨cb, 0, none⟩) 1 cc) := blk_cell hp 6
  have k8 : w.cell? ⟨p, 8, none⟩ = some (.slice none 0 0) := blk_cell hp 8
  have fc := blk_frozen hc 2
  have c2 : w.cell? ⟨cb, 2, none⟩ = some (.bool false) := by rw [blk_cell hc 2]; exact (take3_at ht).2.2
  have hlt : p < w.heap.size := (Array.getElem?_eq_some_iff.1 hp).1
  have hp1 := Lib.hid (set_other hp 2 (.bool true) hne)
  have hc1 := Lib.hid (set_blk hc 2 (.bool true))
  have ht' := Lib.hid (take3_set ht (.bool true))
  have hb1 := Lib.hid ((But2.refl p cb w).set ⟨cb, 2, none⟩ (.bool true) (Or.inr rfl))
  have hsz := size_set w ⟨cb, 2, none⟩ (.bool true)
  clear hp hc ht
  go_enter Tryz.func75, Tryz.ntmps75
  go_wp2_with (at_builtin; refine app_nilN rfl (.tmp 24) (.tmp 26) 22 3 rfl i0 _ 1 8 Tryz.underlying22 hi hz0 hz1 hz2 rfl (by omega) rfl w.heap.size [.int .i64 0] rfl rfl (by have := heap_alloc_new (w.setCell ⟨cb, 2, none⟩ (.bool true)) (.cells #[.int .i64 0] 3); rw [hsz] at this; exact this) (by simp [Value.oneCell']) (by omega) ?_; intro lb lc cl w3 q1 q2 q3 q4; have x3 := ((Ext.refl (w.setCell ⟨cb, 2, none⟩ (.bool true))).alloc (.cells #[.int .i64 0] 3)).trans q4; have z8 : w3.cell? ⟨p, 8, none⟩ = some (.slice none 0 0) := blk_cell (x3.blk hp1.out) 8; have zf := blk_frozen (x3.blk hp1.out) 8; have x3' := Lib.hid x3; have q1' := Lib.hid q1; have q2' := Lib.hid q2; clear x3 q4 q1 q2)
  go_end0
  have zp := x3'.out.blk hp1.out
  have zc := x3'.out.blk hc1.out
  have hl : w.heap.size ≤ lb := by simp [World.setCell] at q3; omega
  refine ⟨rfl, lb, lc, _, set_blk zp 8 _, set_other zc 8 _ (fun e => hne e.symm), ht'.out, ?_, hl, (hb1.out.ext x3'.out).set _ _ (Or.inl rfl)⟩
  rw [World.cell?_setCell_other _ _ _ _ (fun e => by injection e with e; omega)]
  rw [blk_cell q1'.out]
  have : (cl.toList.take 1)[0]? = some (.int .i64 0) := by rw [q2'.out]; rfl
  simpa using this

end Go.Proofs.YtkdpdlboggggoaaGreatDoor
