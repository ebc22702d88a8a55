/- The run of first(): the circuit of a graph without anything; its clauses. -/
import Derived.Test.YtkdpdlboggggoaaGreatDoorFa
namespace Go.Proofs.YtkdpdlboggggoaaGreatDoor
open Go.RowKit

theorem cloneP_nil (w : World) : Calls Tryz.prog 42 #[.slice none 0 0] w fun e w' => e = .returned (.slice none 0 0) ∧ w = w' := by
  have hnil := fun (w : World) (a : Option Addr) (l c : Nat) => Lib.run_eql_slice_nil (P := Tryz.prog) w 36 86 a l c 0 0 Tryz.underlying36
  go_enter Tryz.func42, Tryz.ntmps42
  go_wp2_with fail
  go_ret
  exact ⟨rfl, rfl⟩

theorem cloneI_nil (w : World) : Calls Tryz.prog 34 #[.slice none 0 0] w fun e w' => e = .returned (.slice none 0 0) ∧ w = w' := by
  have hnil := fun (w : World) (a : Option Addr) (l c : Nat) => Lib.run_eql_slice_nil (P := Tryz.prog) w 22 3 a l c 0 0 Tryz.underlying22
  go_enter Tryz.func34, Tryz.ntmps34
  go_wp2_with fail
  go_ret
  exact ⟨rfl, rfl⟩

set_option maxRecDepth 100000 in
theorem f_circuit (g m : Nat) (w : World) (hg : w.heap[g]? = some (.cells #[.int .i64 0, .slice none 0 0, .map (some m), .nilIface] 83 (0, 0))) :
    Calls Tryz.prog 28 #[.pointer (some ⟨g, 0, none⟩), .slice none 0 0] w fun e w' => e = .returned (.agg #[.int .i64 0, .slice none 0 0, .slice none 0 0]) ∧ Ext w w' := by
  have hg' := Lib.hid hg
  have hgl : g < w.heap.size := (Array.getElem?_eq_some_iff.1 hg).1
  have k0 : w.cell? ⟨g, 0, none⟩ = some (.int .i64 0) := blk_cell hg 0
  have k1 : w.cell? ⟨g, 1, none⟩ = some (.slice none 0 0) := blk_cell hg 1
  clear hg
  go_enter Tryz.func28, Tryz.ntmps28
  go_wp2_with fail
  go_region_held3 (fun W => W.cell? ⟨g, 0, none⟩ = some (.int .i64 0) ∧ W.cell? ⟨g, 1, none⟩ = some (.slice none 0 0))
    (go_keep)
    (first
      | (go_at_call 42; refine (cloneP_nil _).mono ?_; rintro e w1 ⟨rfl, rfl⟩)
      | (go_at_call 34; refine (cloneI_nil _).mono ?_; rintro e w1 ⟨rfl, rfl⟩))
  go_wp2_with fail
  exact bodyPost_ret (v := .agg #[.int .i64 0, .slice none 0 0, .slice none 0 0]) (by simp [results, Tryz.results28, go_sem]) rfl ⟨rfl, ((Ext.refl _).alloc _).drew⟩

set_option maxRecDepth 100000 in
theorem f_clause (b : Nat) (w : World) (hc : w.cell? ⟨b, 0, none⟩ = some (.int .i64 0)) :
    Calls Tryz.prog 41 #[.slice (some ⟨b, 0, none⟩) 1 1] w fun e w' => ∃ q c, e = .returned (.tuple #[.slice (some ⟨q, 0, none⟩) 0 c, .bool true]) ∧ Ext w w' := by
  have hlt := World.block_lt_of_cell? w _ hc
  have hmk : ∀ w : World, (Instr.makeSlice 22 (.int .i64 0) (.int .i64 1)).run Tryz.prog w = .ok (.slice (some ⟨w.heap.size, 0, none⟩) 0 1) (w.alloc (.cells #[.int .i64 0] 3)) := fun _ => by kernel_rfl
  go_enter Tryz.func41, Tryz.ntmps41
  go_wp2_with fail
  refine wp_loop_rounds 2 ?_
  rw [rounds_succ]
  go_wp2_with fail
  rw [rounds_succ]
  go_wp2_with fail
  go_ret2
  exact ⟨w.heap.size, 1, rfl, (Ext.refl _).alloc _⟩

theorem heap_alloc2 (w : World) (o o' : Obj) : ((w.alloc o).alloc o').heap[w.heap.size + 1]? = some o' := by
  have e : (w.alloc o).heap.size = w.heap.size + 1 := by simp
  rw [← e]
  exact heap_alloc_new _ _

theorem gc00 : RightC 0 [] [] := ⟨by simp, fun k x h => by simp at h, fun l hl => by simp at hl⟩

set_option maxRecDepth 100000 in
set_option maxHeartbeats 1000000 in
theorem f_encode (b cb : Nat) (w : World) (hc : w.cell? ⟨b, 0, none⟩ = some (.int .i64 0)) :
    Calls Tryz.prog 27 #[.agg #[.int .i64 0, .slice none 0 0, .slice none 0 0], .slice (some ⟨b, 0, none⟩) 1 cb] w fun e w' => ∃ q c q2 c2, e = .returned (.tuple #[.agg #[.int .i64 0, .slice (some ⟨q, 0, none⟩) 1 c], .nilIface]) ∧
      w'.cell? ⟨q, 0, none⟩ = some (.slice (some ⟨q2, 0, none⟩) 0 c2) ∧ Ext w w' := by
  have hlt := World.block_lt_of_cell? w _ hc
  have H := Lib.hid (fun (W : World) => graphCheck_ok 0 [] [] none none 0 0 0 0 W gc00 rfl rfl (by omega) (SlP.nil _ _ _) (Sl.nil _ _ _))
  obtain ⟨i0, hi, hz0, hz1, hz2⟩ := info_parts info_ints
  go_enter Tryz.func27, Tryz.ntmps27
  go_wp2_with fail
  refine (H.out _).mono ?_
  rintro e w1 ⟨rfl, hb⟩
  have he1 : Ext w w1 := (((Ext.refl _).alloc _).alloc _).trans hb
  have hb2 := (hb.block w.heap.size (by simp; omega)).trans ((Below.heap_alloc _ _ _ (by simp)).trans (heap_alloc_new w _))
  have hb4 := (hb.block (w.heap.size + 1) (by simp)).trans (heap_alloc2 w _ _)
  have hsz : w.heap.size + 1 < w1.heap.size := by have := hb.size; simp at this; omega
  have hsz' : w.heap.size < w1.heap.size := by omega
  have k0 : w1.cell? ⟨w.heap.size, 0, none⟩ = some (.int .i64 0) := blk_cell hb2 0
  have k1 : w1.cell? ⟨w.heap.size, 1, none⟩ = some (.slice none 0 0) := blk_cell hb2 1
  have r0 : w1.cell? ⟨w.heap.size + 1, 0, none⟩ = some (.int .i64 0) := blk_cell hb4 0
  have r1 : w1.cell? ⟨w.heap.size + 1, 1, none⟩ = some (.slice none 0 0) := blk_cell hb4 1
  have rf0 := blk_frozen hb4 0
  have rf1 := blk_frozen hb4 1
  have hr := Lib.hid hb4
  have hc1 := he1.cell hc
  have hlt1 := World.block_lt_of_cell? w1 _ hc1
  clear hb hb2 hb4 hc H
  go_wp2_with fail
  refine wp_loop_rounds 2 ?_
  rw [rounds_succ]
  go_wp2_with fail
  rw [rounds_succ]
  go_wp2_with fail
  refine wp_loop_rounds 1 ?_
  rw [rounds_succ]
  go_wp2_with fail
  refine wp_loop_rounds 2 ?_
  rw [rounds_succ]
  go_wp2_with fail
  refine (f_clause _ _ (by simp)).mono ?_
  rintro e w2 ⟨q2, c2, rfl, he2⟩
  have he12 : Ext w1 w2 := (((Ext.refl _).alloc _).alloc _).trans he2
  have hn := he2.blk ((Below.heap_alloc _ (.cells #[.int .i64 0] 3) _ (by simp)).trans (heap_alloc_new w1 (.cells #[.int .i64 0, .slice none 0 0] 62)))
  have hsz2 : w1.heap.size < w2.heap.size := by have := he2.size; simp at this; omega
  have hn1 : w2.cell? ⟨w1.heap.size, 1, none⟩ = some (.slice none 0 0) := blk_cell hn 1
  have m0 := Lib.hid hn
  have m1 := Lib.hid (fun (W : World) (hW : Ext w2 W) => (he12.trans hW).cell r0)
  have m2 := Lib.hid (fun (W : World) (hW : Ext w2 W) => (he12.trans hW).cell r1)
  have m3 := Lib.hid (fun (W : World) (hW : Ext w2 W) => blk_frozen ((he12.trans hW).blk hr.out) 0)
  have m4 := Lib.hid (fun (W : World) (hW : Ext w2 W) => blk_frozen ((he12.trans hW).blk hr.out) 1)
  have hz : w.heap.size + 1 < w2.heap.size := by omega
  clear he2 hn r0 r1 rf0 rf1 k0 k1 hc1 hlt1
  go_wp2_with (at_builtin; refine app_one rfl (.tmp 83) (.tmp 85) 60 22 rfl i0 _ 24 Tryz.underlying60 hi hz0 hz1 hz2 rfl w2.heap.size _ 0 [] rfl w2 _ rfl (own_nil' _ _ _) rfl rfl (by omega) (by omega) (Nat.le_refl _) ?_; intro A3 c3 w3 hown3 hg3 hat3; have he3 : Ext w2 w3 := ((Ext.refl _).alloc _).trans (Ext.grown hg3); have hn1 := blk_cell (he3.blk m0.out) 1; have hnf1 := blk_frozen (he3.blk m0.out) 1; have hn0 := blk_cell (he3.blk m0.out) 0; have r0 := m1.out _ he3; have r1 := m2.out _ he3; have rf0 := m3.out _ he3; have rf1 := m4.out _ he3; have hz3 : w2.heap.size ≤ w3.heap.size := he3.size; clear hat3; simp only [List.getElem?_toArray, List.getElem?_cons_zero, List.getElem?_cons_succ] at hn0 hn1)
  obtain ⟨q, cur, rfl, hq0, hq, hq3, hq4, hq5⟩ := own_at hown3 (by omega)
  have hcq : w3.cell? ⟨q, 0, none⟩ = some (.slice (some ⟨q2, 0, none⟩) 0 c2) := by
    rw [blk_cell hq 0]
    have := congrArg (·[0]?) hq5
    simpa using this
  have hq' := Lib.hid hq
  have he3' := Lib.hid he3
  have he12' := Lib.hid (he1.trans (he12.trans he3))
  clear hq hq4 hq5 he3 he12 he1 hg3 hown3
  rw [rounds_succ]
  go_wp2_with fail
  refine bodyPost_ret (v := .tuple #[.agg #[.int .i64 0, .slice (some ⟨q, 0, none⟩) 1 c3], .nilIface]) (by simp [results, Tryz.results27, go_sem, r0, r1]) rfl ⟨q, c3, q2, c2, rfl, ?_, ?_⟩
  · have hx1 : q ≠ w1.heap.size := by omega
    have hx2 : q ≠ w.heap.size + 1 := by omega
    rw [World.cell?_setCell_other _ _ _ _ (fun e => by injection e with e; omega), World.cell?_setCell_other _ _ _ _ (fun e => by injection e with e; omega), World.cell?_setCell_other _ _ _ _ (fun e => by injection e with e; omega)]
    exact hcq
  · exact Below.setCell (Below.setCell (Below.setCell he12'.out (by show w.heap.size ≤ w1.heap.size; omega) _) (by show w.heap.size ≤ w.heap.size + 1; omega) _) (by show w.heap.size ≤ w.heap.size + 1; omega) _

end Go.Proofs.YtkdpdlboggggoaaGreatDoor
