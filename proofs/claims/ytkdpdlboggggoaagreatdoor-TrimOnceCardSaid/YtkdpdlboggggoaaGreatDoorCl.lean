/- slices.Clone at []int; pace.New. -/
import Derived.Test.YtkdpdlboggggoaaGreatDoorBa
import Derived.Deep.RegionHeld3
namespace Go.Proofs.YtkdpdlboggggoaaGreatDoor
open Go.RowKit

/-- All that there was stands as it stood. -/
def Ext (w w' : World) : Prop := Below w.heap.size w w'
theorem Ext.refl (w : World) : Ext w w := Below.refl _ _
theorem Ext.trans {a b c : World} (h : Ext a b) (k : Ext b c) : Ext a c := Below.trans h (Below.mono k h.size)
theorem Ext.alloc {a b : World} (h : Ext a b) (o : Obj) : Ext a (b.alloc o) := Below.alloc h h.size o
theorem Ext.drewN {a b : World} (h : Ext a b) (n : Nat) : Ext a (b.drewN n) := ⟨h.os, h.tape, h.output, h.size, h.block⟩
theorem Ext.drew {a b : World} (h : Ext a b) : Ext a b.drew := ⟨h.os, h.tape, h.output, h.size, h.block⟩
theorem Ext.cell {a b : World} (h : Ext a b) {p : Addr} {v : Value} (hc : a.cell? p = some v) : b.cell? p = some v :=
  (Below.cell h (World.block_lt_of_cell? a p hc)).trans hc
theorem Ext.blk {a b : World} (h : Ext a b) {g : Nat} {o : Obj} (hc : a.heap[g]? = some o) : b.heap[g]? = some o :=
  (h.block g (Array.getElem?_eq_some_iff.1 hc).1).trans hc

theorem Ext.grown {w w' : World} (h : w.grownBy w' none) : Ext w w' := ⟨h.os, h.tape, h.output, h.size, fun k hk => h.block k hk (by simp)⟩
/-- A row of the call's own that holds something lies at a block's head. -/
theorem own_at {w : World} {base e n c : Nat} {A : Option Addr} {xs : List Value} (h : w.ownsRow base e 1 (.slice A n c) n xs) (hn : 0 < n) :
    ∃ g cur, A = some ⟨g, 0, none⟩ ∧ base ≤ g ∧ w.heap[g]? = some (.cells cur e (0, 0)) ∧ n ≤ c ∧ cur.size = c ∧ cur.toList.take n = xs := by
  rcases h.2 with ⟨hv, h0⟩ | ⟨g, cap, cur, hv, hb, hg, hnc, _, hcs, ht⟩
  · omega
  · injection hv with h1 h2 h3
    subst h3
    exact ⟨g, cur, h1, hb, hg, hnc, by simpa using hcs, by simpa using ht⟩

theorem blk_frozen {w : World} {g : Nat} {T : TypeId} {cs : Array Value} (h : w.heap[g]? = some (.cells cs T (0, 0))) (i : Nat) : w.frozen? ⟨g, i, none⟩ = false := by simp [World.frozen?, h]
theorem blk_cell {w : World} {g : Nat} {T : TypeId} {cs : Array Value} (h : w.heap[g]? = some (.cells cs T (0, 0))) (i : Nat) : w.cell? ⟨g, i, none⟩ = cs[i]? := cell_of_row w g i cs T (0, 0) h

set_option maxRecDepth 100000 in
theorem CloneI_any (A : Option Addr) (n c : Nat) (xs : List Int) (w : World) (h1 : xs.length = n) (hl1 : n ≤ 1000000) (s1 : Sl w w.heap.size A (xs.map (Value.int .i64))) :
    Calls Tryz.prog 34 #[.slice A n c] w fun e w' => ∃ A' c', e = .returned (.slice A' n c') ∧ SlT w' 3 A' (xs.map (Value.int .i64)) ∧ Below w.heap.size w w' := by
  have hnil := fun (w : World) (a : Option Addr) (l c : Nat) => Lib.run_eql_slice_nil (P := Tryz.prog) w 22 3 a l c 0 0 Tryz.underlying22
  obtain ⟨i0, hi, hz0, hz1, hz2⟩ := info_parts info_int
  have h1' := Lib.hid h1
  have s1' := Lib.hid s1
  clear s1
  cases A with
  | none =>
    have hx : xs = [] := by
      cases xs with
      | nil => rfl
      | cons x l =>
        obtain ⟨ad, e, _⟩ := s1'.out (by simp)
        cases e
    subst hx
    obtain rfl : n = 0 := by simpa using h1.symm
    clear h1
    go_enter Tryz.func34, Tryz.ntmps34
    go_wp2_with fail
    go_ret
    exact ⟨none, 0, rfl, SlT.nil _ _ _, Below.refl _ _⟩
  | some ad =>
    clear h1
    go_enter Tryz.func34, Tryz.ntmps34
    have hcells : ∀ W : World, Below w.heap.size w W → ∀ j u, (xs.map (Value.int .i64))[j]? = some u → W.cell? (ad.add j) = some u := by
      intro W hb j u hu
      have hne : xs.map (Value.int .i64) ≠ [] := by intro e; rw [e] at hu; simp at hu
      obtain ⟨ad', e, hlt, hc⟩ := s1'.out hne
      injection e with e
      subst e
      rw [hb.cell (by rw [add_block]; exact hlt)]
      exact hc j u hu
    have hcells' := Lib.hid hcells
    clear hcells
    go_wp2_with (at_builtin; refine app_many rfl (.tmp 5) (.tmp 6) 22 3 rfl i0 _ 8 Tryz.underlying22 hi hz0 hz1 hz2 rfl w.heap.size (.slice (some ⟨w.heap.size, 0, none⟩) 0 0) 0 [] rfl (own_made0 w _) ad n c rfl (xs.map (Value.int .i64)) (by simp [h1'.out]) (hcells'.out _ ((Below.refl _ _).alloc (Nat.le_refl _) _)) (oneCell_ints _) (by omega) (by omega) (by simp) ?_; intro A' c' w1 hown1 hg1 hat1)
    go_ret
    simp only [List.nil_append, Nat.zero_add] at hown1
    refine ⟨A', c', by simp, SlT.own hown1, ((Below.refl _ _).alloc (Nat.le_refl _) _).grown hg1 (by simp) ?_⟩
    intro k hk
    have e : w.heap.size = k := by simpa [Value.ownBlock] using hk
    omega


theorem own_any (A : Option Addr) (n c : Nat) (xs : List Int) (w : World) (h1 : xs.length = n) (hl1 : n ≤ 1000000) (s1 : Sl w w.heap.size A (xs.map (Value.int .i64))) :
    Calls Tryz.prog 33 #[.slice A n c] w fun e w' => ∃ A' c', e = .returned (.agg #[.slice A' n c', .int .i64 0]) ∧ SlT w' 3 A' (xs.map (Value.int .i64)) ∧ Ext w w' := by
  have H := Lib.hid (fun (W : World) (hW : Ext w W) => CloneI_any A n c xs W h1 hl1 ((s1.below hW).more hW.size))
  clear h1 s1
  go_enter Tryz.func33, Tryz.ntmps33
  go_wp2_with fail
  refine (H.out _ ((Ext.refl _).alloc _)).mono ?_
  rintro e w1 ⟨A', c', rfl, hs, hb⟩
  have hs' := Lib.hid hs
  have hblk := (hb.block w.heap.size (by simp)).trans (heap_alloc_new w _)
  have hb0 : Ext w w1 := ((Ext.refl _).alloc _).trans hb
  have hsz : w.heap.size < w1.heap.size := by have := hb.size; simp at this; omega
  have hc0 : w1.cell? ⟨w.heap.size, 0, none⟩ = some (.slice none 0 0) := blk_cell hblk 0
  have hc1 : w1.cell? ⟨w.heap.size, 1, none⟩ = some (.int .i64 0) := blk_cell hblk 1
  have hf0 := blk_frozen hblk 0
  have hf1 := blk_frozen hblk 1
  have hty : tyAt w1 w.heap.size ≠ some 3 := by rw [tyAt_blk hblk]; decide
  have hty' := Lib.hid hty
  clear hs hb hblk hty
  go_wp2_with fail
  refine bodyPost_ret (v := .agg #[.slice A' n c', .int .i64 0]) (by simp [results, Tryz.results33, go_sem, hc0, hc1]) rfl ⟨A', c', rfl, ?_, Below.setCell (Below.setCell hb0 (Nat.le_refl _) _) (Nat.le_refl _) _⟩
  exact (hs'.out.setCell _ hty'.out).setCell _ (by rw [tyAt_setCell]; exact hty'.out)

theorem SlT.ext {w w' : World} {T : TypeId} {A : Option Addr} {xs : List Value} (h : SlT w T A xs) (he : Ext w w') : SlT w' T A xs := h.below he

theorem S5_ext {w a b : World} {g : Nat} {v0 v1 v2 v3 v4 : Value} (he : Ext a b)
    (h : Ext w a ∧ a.cell? ⟨g, 0, none⟩ = some v0 ∧ a.cell? ⟨g, 1, none⟩ = some v1 ∧ a.cell? ⟨g, 2, none⟩ = some v2 ∧ a.cell? ⟨g, 3, none⟩ = some v3 ∧ a.cell? ⟨g, 4, none⟩ = some v4) :
    Ext w b ∧ b.cell? ⟨g, 0, none⟩ = some v0 ∧ b.cell? ⟨g, 1, none⟩ = some v1 ∧ b.cell? ⟨g, 2, none⟩ = some v2 ∧ b.cell? ⟨g, 3, none⟩ = some v3 ∧ b.cell? ⟨g, 4, none⟩ = some v4 :=
  ⟨h.1.trans he, he.cell h.2.1, he.cell h.2.2.1, he.cell h.2.2.2.1, he.cell h.2.2.2.2.1, he.cell h.2.2.2.2.2⟩

set_option maxRecDepth 100000 in
set_option maxHeartbeats 4000000 in
theorem paceNew_any (A1 A2 A3 A4 : Option Addr) (n1 c1 n2 c2 n3 c3 n4 c4 : Nat) (l1 l2 l3 l4 : List Int) (conf rounds : Int) (w : World) (h1 : l1.length = n1) (h2 : l2.length = n2) (h3 : l3.length = n3) (h4 : l4.length = n4)
    (g1 : n1 ≤ 1000000) (g2 : n2 ≤ 1000000) (g3 : n3 ≤ 1000000) (g4 : n4 ≤ 1000000)
    (s1 : Sl w w.heap.size A1 (l1.map (Value.int .i64))) (s2 : Sl w w.heap.size A2 (l2.map (Value.int .i64))) (s3 : Sl w w.heap.size A3 (l3.map (Value.int .i64))) (s4 : Sl w w.heap.size A4 (l4.map (Value.int .i64))) :
    Calls Tryz.prog 18 #[.agg #[.slice A1 n1 c1, .slice A2 n2 c2, .slice A3 n3 c3, .slice A4 n4 c4, .int .i64 conf, .int .i64 rounds]] w fun e w' => ∃ b B1 d1 B2 d2 B3 d3 B4 d4, e = .returned (.pointer (some ⟨b, 0, none⟩)) ∧
      w'.heap[b]? = some (.cells #[.slice B1 n1 d1, .int .i64 0, .slice B2 n2 d2, .int .i64 0, .slice B3 n3 d3, .int .i64 0, .slice B4 n4 d4, .int .i64 0, .int .i64 conf, .int .i64 0, .int .i64 0, .int .i64 16] 79 (0, 0)) ∧
      SlT w' 3 B1 (l1.map (Value.int .i64)) ∧ SlT w' 3 B2 (l2.map (Value.int .i64)) ∧ SlT w' 3 B3 (l3.map (Value.int .i64)) ∧ SlT w' 3 B4 (l4.map (Value.int .i64)) ∧ Ext w w' ∧ w.heap.size ≤ b := by
  have H1 := Lib.hid (fun (W : World) (hW : Ext w W) => own_any A1 n1 c1 l1 W h1 g1 ((s1.below hW).more hW.size))
  have H2 := Lib.hid (fun (W : World) (hW : Ext w W) => own_any A2 n2 c2 l2 W h2 g2 ((s2.below hW).more hW.size))
  have H3 := Lib.hid (fun (W : World) (hW : Ext w W) => own_any A3 n3 c3 l3 W h3 g3 ((s3.below hW).more hW.size))
  have H4 := Lib.hid (fun (W : World) (hW : Ext w W) => own_any A4 n4 c4 l4 W h4 g4 ((s4.below hW).more hW.size))
  clear h1 h2 h3 h4 s1 s2 s3 s4
  go_enter Tryz.func18, Tryz.ntmps18
  go_wp2_with fail
  have he0 : Ext w (w.alloc (Obj.cells #[.slice A1 n1 c1, .slice A2 n2 c2, .slice A3 n3 c3, .slice A4 n4 c4, .int .i64 conf, .int .i64 rounds] 42)) := (Ext.refl _).alloc _
  have hb0 : (w.alloc (Obj.cells #[.slice A1 n1 c1, .slice A2 n2 c2, .slice A3 n3 c3, .slice A4 n4 c4, .int .i64 conf, .int .i64 rounds] 42)).heap[w.heap.size]? = _ := heap_alloc_new w _
  generalize w.alloc (Obj.cells #[.slice A1 n1 c1, .slice A2 n2 c2, .slice A3 n3 c3, .slice A4 n4 c4, .int .i64 conf, .int .i64 rounds] 42) = wa at he0 hb0 ⊢
  have k0 : wa.cell? ⟨w.heap.size, 0, none⟩ = some (.slice A1 n1 c1) := blk_cell hb0 0
  have k1 : wa.cell? ⟨w.heap.size, 1, none⟩ = some (.slice A2 n2 c2) := blk_cell hb0 1
  have k2 : wa.cell? ⟨w.heap.size, 2, none⟩ = some (.slice A3 n3 c3) := blk_cell hb0 2
  have k3 : wa.cell? ⟨w.heap.size, 3, none⟩ = some (.slice A4 n4 c4) := blk_cell hb0 3
  have k4 : wa.cell? ⟨w.heap.size, 4, none⟩ = some (.int .i64 conf) := blk_cell hb0 4
  clear hb0
  go_region_held3 (fun W => Ext w W ∧ W.cell? ⟨w.heap.size, 0, none⟩ = some (.slice A1 n1 c1) ∧ W.cell? ⟨w.heap.size, 1, none⟩ = some (.slice A2 n2 c2) ∧ W.cell? ⟨w.heap.size, 2, none⟩ = some (.slice A3 n3 c3) ∧ W.cell? ⟨w.heap.size, 3, none⟩ = some (.slice A4 n4 c4) ∧ W.cell? ⟨w.heap.size, 4, none⟩ = some (.int .i64 conf))
    (first | exact ⟨he0.drew, k0, k1, k2, k3, k4⟩ | exact S5_ext (by assumption) (by assumption) | exact S5_ext ((Ext.refl _).alloc _) (by assumption))
    (first
      | (go_at_call_of 33 (Value.slice A1 n1 c1); refine (H1.out _ ?_).mono ?_; exact And.left (by assumption); rintro e w1 ⟨B1, d1, rfl, hs1, he1⟩)
      | (go_at_call_of 33 (Value.slice A2 n2 c2); refine (H2.out _ ?_).mono ?_; exact And.left (by assumption); rintro e w2 ⟨B2, d2, rfl, hs2, he2⟩)
      | (go_at_call_of 33 (Value.slice A3 n3 c3); refine (H3.out _ ?_).mono ?_; exact And.left (by assumption); rintro e w3 ⟨B3, d3, rfl, hs3, he3⟩)
      | (go_at_call_of 33 (Value.slice A4 n4 c4); refine (H4.out _ ?_).mono ?_; exact And.left (by assumption); rintro e w4 ⟨B4, d4, rfl, hs4, he4⟩))
  go_wp2_with fail
  go_ret
  have e4 : ∀ o, Ext w4 (w4.alloc o) := fun o => (Ext.refl w4).alloc o
  refine ⟨w4.heap.size, B1, d1, B2, d2, B3, d3, B4, d4, rfl, heap_alloc_new w4 _, (((hs1.ext he2).ext he3).ext he4).ext (e4 _), ((hs2.ext he3).ext he4).ext (e4 _), (hs3.ext he4).ext (e4 _), hs4.ext (e4 _), And.left (by assumption), ?_⟩
  have h1 := he0.size
  have h2 : wa.heap.size ≤ w1.heap.size := he1.size
  have h3 := he2.size
  have h4 := he3.size
  have h5 := he4.size
  omega

end Go.Proofs.YtkdpdlboggggoaaGreatDoor
