/- The run of first(): a match without inputs whose output is false: its one move made in a graph. -/
import Derived.Test.YtkdpdlboggggoaaGreatDoorRi
import Derived.Test.YtkdpdlboggggoaaGreatDoorCl
namespace Go.Proofs.YtkdpdlboggggoaaGreatDoor
open Go.RowKit

theorem rc0 : RightC 0 [] [0] := ⟨by simp, fun k x h => by simp at h, fun l hl => by simp at hl; subst hl; simp⟩

theorem sl_one {w : World} {b : Nat} {u : Value} (h : w.cell? ⟨b, 0, none⟩ = some u) : Sl w w.heap.size (some ⟨b, 0, none⟩) [u] := fun _ =>
  ⟨_, rfl, World.block_lt_of_cell? w _ h, fun j x hj => by
    cases j with
    | zero => simp at hj; subst hj; simpa [Addr.add] using h
    | succ j => simp at hj⟩

set_option maxRecDepth 100000 in
theorem f_marks (b : Nat) (w : World) (hc : w.cell? ⟨b, 0, none⟩ = some (.int .i64 0)) :
    Calls Tryz.prog 63 #[.agg #[.int .i64 0, .slice none 0 0, .slice (some ⟨b, 0, none⟩) 1 1], .int .i64 0] w fun e w' => ∃ g, e = .returned (.slice (some ⟨g, 0, none⟩) 1 1) ∧
      w'.heap[g]? = some (.cells #[.bool true] 4 (0, 0)) ∧ Ext w w' ∧ w.heap.size ≤ g := by
  have H := Lib.hid (fun (W : World) (hW : Ext w W) => graphCheck_ok 0 [] [0] none (some ⟨b, 0, none⟩) 0 0 1 1 W rc0 rfl rfl (by omega) (SlP.nil _ _ _) (sl_one (hW.cell hc)))
  have hmk : ∀ w : World, (Instr.makeSlice 29 (.int .i64 1) (.int .i64 1)).run Tryz.prog w = .ok (.slice (some ⟨w.heap.size, 0, none⟩) 1 1) (w.alloc (.cells #[.bool false] 4)) := fun _ => by kernel_rfl
  clear hc
  go_enter Tryz.func63, Tryz.ntmps63
  go_wp2_with fail
  refine (H.out _ ((Ext.refl _).alloc _)).mono ?_
  rintro e w1 ⟨rfl, hb⟩
  have hb0 : Ext w w1 := ((Ext.refl _).alloc _).trans hb
  have hblk := (hb.block w.heap.size (by simp)).trans (heap_alloc_new w _)
  have hc0 : w1.cell? ⟨w.heap.size, 0, none⟩ = some (.int .i64 0) := blk_cell hblk 0
  have hsz : w.heap.size < w1.heap.size := by have := hb.size; simp at this; omega
  clear hb hblk
  go_wp2_with fail
  refine wp_loop_once ?_
  go_wp2_with fail
  go_ret
  exact ⟨w1.heap.size, rfl, heap_alloc_new w1 _, hb0.alloc _, by omega⟩

set_option maxRecDepth 100000 in
theorem f_copy (gp : Value) (b : Nat) (w : World) (hc : w.cell? ⟨b, 0, none⟩ = some (.int .i64 0)) (A : Option Addr) (c : Nat) :
    Calls Tryz.prog 39 #[gp, .agg #[.int .i64 0, .slice none 0 0, .slice (some ⟨b, 0, none⟩) 1 1], .int .i64 0, .slice A 0 c] w fun e w' => e = .returned (.int .i64 0) ∧ Ext w w' := by
  have H := Lib.hid (fun (W : World) (hW : Ext w W) => f_marks b W (hW.cell hc))
  have hmk : ∀ w : World, (Instr.makeSlice 22 (.int .i64 1) (.int .i64 1)).run Tryz.prog w = .ok (.slice (some ⟨w.heap.size, 0, none⟩) 1 1) (w.alloc (.cells #[.int .i64 0] 3)) := fun _ => by kernel_rfl
  have hnil := fun (w : World) (a : Option Addr) (l c : Nat) => Lib.run_eql_slice_nil (P := Tryz.prog) w 29 4 a l c 0 0 Tryz.underlying29
  clear hc
  go_enter Tryz.func39, Tryz.ntmps39
  go_wp2_with fail
  refine (H.out _ ((Ext.refl _).alloc _)).mono ?_
  rintro e w1 ⟨g, rfl, hg, hb, hg2⟩
  have hb0 : Ext w w1 := ((Ext.refl _).alloc _).trans hb
  have hblk := (hb.block w.heap.size (by simp)).trans (heap_alloc_new w _)
  have hc0 : w1.cell? ⟨w.heap.size, 0, none⟩ = some (.int .i64 0) := blk_cell hblk 0
  have hsz : w.heap.size < w1.heap.size := by have := hb.size; simp at this; omega
  clear hb hblk
  have hsz1 : (Tryz.prog.info? 3).map (·.size) = some 1 := by kernel_rfl
  have hcp := fun (W : World) (x : Addr) => run_copy_none (P := Tryz.prog) (w := W) 22 22 3 3 (some x) A 0 0 0 c Tryz.underlying22 hsz1 rfl
  clear hsz1
  go_wp2_with fail
  refine wp_loop_once ?_
  go_wp2
  go_ret
  exact ⟨rfl, (hb0.alloc _).alloc _⟩

theorem f_graphNew (w : World) : Calls Tryz.prog 23 #[.int .i64 0] w fun e w' => ∃ g m, e = .returned (.pointer (some ⟨g, 0, none⟩)) ∧
    w'.heap[g]? = some (.cells #[.int .i64 0, .slice none 0 0, .map (some m), .nilIface] 83 (0, 0)) ∧ Ext w w' ∧ w.heap.size ≤ g := by
  have hmm := @run_makeMap Tryz.prog
  go_enter Tryz.func23, Tryz.ntmps23
  go_wp2
  go_ret
  exact ⟨w.heap.size + 1, w.heap.size, rfl, by have := heap_alloc_new (w.alloc (Obj.map #[] 0)) (.cells #[.int .i64 0, .slice none 0 0, .map (some w.heap.size), .nilIface] 83); simpa using this, ((Ext.refl _).alloc _).alloc _, by omega⟩

theorem f_want (b : Nat) (w : World) : Calls Tryz.prog 24 #[.agg #[.bool true, .int .i64 0, .int .i64 0, .slice none 0 0, .slice (some ⟨b, 0, none⟩) 1 1], .int .i64 0] w fun e w' => e = .returned (.int .i64 0) ∧ Ext w w' := by
  go_enter Tryz.func24, Tryz.ntmps24
  go_wp2
  go_ret
  exact ⟨rfl, (Ext.refl _).alloc _⟩

set_option maxRecDepth 100000 in
theorem f_move (g b : Nat) (x : Value) (w : World) (hc : w.cell? ⟨b, 0, none⟩ = some (.int .i64 0)) :
    Calls Tryz.prog 25 #[.pointer (some ⟨g, 0, none⟩), .agg #[.bool true, .int .i64 0, .int .i64 0, .slice none 0 0, .slice (some ⟨b, 0, none⟩) 1 1], x] w fun e w' => e = .returned (.int .i64 0) ∧ Ext w w' := by
  have H := Lib.hid (fun (W : World) (hW : Ext w W) A c => f_copy (.pointer (some ⟨g, 0, none⟩)) b W (hW.cell hc) A c)
  have hmk : ∀ w : World, (Instr.makeSlice 22 (.int .i64 0) (.int .i64 0)).run Tryz.prog w = .ok (.slice (some ⟨w.heap.size, 0, none⟩) 0 0) (w.alloc (.cells #[] 3)) := fun _ => by kernel_rfl
  have hlt := World.block_lt_of_cell? w _ hc
  go_enter Tryz.func25, Tryz.ntmps25
  go_wp2_with fail
  refine wp_loop_once ?_
  go_wp2_with fail
  have he0 : Ext w ((w.alloc (Obj.cells #[.bool true, .int .i64 0, .int .i64 0, .slice none 0 0, .slice (some ⟨b, 0, none⟩) 1 1] 40)).alloc (.cells #[] 3)) := ((Ext.refl _).alloc _).alloc _
  have hb0 : ((w.alloc (Obj.cells #[.bool true, .int .i64 0, .int .i64 0, .slice none 0 0, .slice (some ⟨b, 0, none⟩) 1 1] 40)).alloc (.cells #[] 3)).heap[w.heap.size]? = some (.cells #[.bool true, .int .i64 0, .int .i64 0, .slice none 0 0, .slice (some ⟨b, 0, none⟩) 1 1] 40 (0, 0)) :=
    (Below.heap_alloc _ _ _ (by simp)).trans (heap_alloc_new w _)
  generalize ((w.alloc (Obj.cells #[.bool true, .int .i64 0, .int .i64 0, .slice none 0 0, .slice (some ⟨b, 0, none⟩) 1 1] 40)).alloc (.cells #[] 3)) = wa at he0 hb0 ⊢
  have k0 : wa.cell? ⟨w.heap.size, 2, none⟩ = some (.int .i64 0) := blk_cell hb0 2
  have k1 : wa.cell? ⟨w.heap.size, 3, none⟩ = some (.slice none 0 0) := blk_cell hb0 3
  have k2 : wa.cell? ⟨w.heap.size, 4, none⟩ = some (.slice (some ⟨b, 0, none⟩) 1 1) := blk_cell hb0 4
  have k3 : wa.cell? ⟨b, 0, none⟩ = some (.int .i64 0) := he0.cell hc
  clear hb0 hmk hc
  go_region_held3 (fun W => Ext w W ∧ W.cell? ⟨w.heap.size, 2, none⟩ = some (.int .i64 0) ∧ W.cell? ⟨w.heap.size, 3, none⟩ = some (.slice none 0 0) ∧ W.cell? ⟨w.heap.size, 4, none⟩ = some (.slice (some ⟨b, 0, none⟩) 1 1) ∧ W.cell? ⟨b, 0, none⟩ = some (.int .i64 0))
    (first | exact ⟨he0.drew, k0, k1, k2, k3⟩ | exact ⟨he0.drew.trans he1, he1.cell k0, he1.cell k1, he1.cell k2, he1.cell k3⟩)
    ((go_at_call 39; refine (H.out _ ?_ _ _).mono ?_; exact And.left (by assumption); rintro e w1 ⟨rfl, he1⟩))
  go_wp2_with fail
  go_ret
  exact ⟨rfl, he0.drew.trans he1⟩

end Go.Proofs.YtkdpdlboggggoaaGreatDoor
