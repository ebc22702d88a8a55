/- The run of first(): Propagate finds the clause of nothing. -/
import Derived.Test.YtkdpdlboggggoaaGreatDoorFj
import Derived.Defers
namespace Go.Proofs.YtkdpdlboggggoaaGreatDoor
open Go.RowKit

theorem f_watches (p a lv rs wt cb cc d : Nat) (B : Option Addr) (cur : Array Value) (lo : Value) (v1 v2 : Value) (w : World) (hp : w.heap[p]? = some (.cells (PC a lv rs wt (.slice (some ⟨cb, 0, none⟩) 1 cc) lo) 120 (0, 0)))
    (hc : w.heap[cb]? = some (.cells cur 124 (0, 0))) (ht : cur.toList.take 3 = [.slice B 0 d, v1, v2]) :
    Calls Tryz.prog 133 #[.pointer (some ⟨p, 0, none⟩), .int .i64 0] w fun e w' => e = .returned (.tuple #[]) ∧ w = w' := by
  have k6 : w.cell? ⟨p, 6, none⟩ = some (.slice (some ⟨cb, 0, none⟩) 1 cc) := blk_cell hp 6
  have c0 : w.cell? ⟨cb, 0, none⟩ = some (.slice B 0 d) := by rw [blk_cell hc 0]; exact (take3_at ht).1
  clear hp hc ht
  go_enter Tryz.func133, Tryz.ntmps133
  go_wp2_with fail
  exact bodyPost_ret (results_none rfl _ _ _) rfl ⟨rfl, rfl⟩

theorem f_anew (p a lv rs wt cb cc d : Nat) (B : Option Addr) (cur : Array Value) (lo : Value) (v1 v2 : Value) (w : World) (hp : w.heap[p]? = some (.cells (PC a lv rs wt (.slice (some ⟨cb, 0, none⟩) 1 cc) lo) 120 (0, 0)))
    (hc : w.heap[cb]? = some (.cells cur 124 (0, 0))) (ht : cur.toList.take 3 = [.slice B 0 d, v1, v2]) :
    Calls Tryz.prog 107 #[.pointer (some ⟨p, 0, none⟩), .int .i64 0] w fun e w' => e = .returned (.tuple #[.bool true, .bool true]) ∧ Ext w w' := by
  have k6 : w.cell? ⟨p, 6, none⟩ = some (.slice (some ⟨cb, 0, none⟩) 1 cc) := blk_cell hp 6
  have c0 : w.cell? ⟨cb, 0, none⟩ = some (.slice B 0 d) := by rw [blk_cell hc 0]; exact (take3_at ht).1
  have H := Lib.hid (f_watches p a lv rs wt cb cc d B cur lo v1 v2 w hp hc ht)
  clear hp hc ht
  go_enter Tryz.func107, Tryz.ntmps107
  go_wp2_with fail
  refine H.out.mono ?_
  rintro e w' ⟨rfl, rfl⟩
  clear H
  go_wp2_with fail
  go_region
  all_goals (go_wp2_with fail; go_ret2; exact ⟨rfl, (Ext.refl _).drew⟩)

set_option maxRecDepth 100000 in
set_option maxHeartbeats 1000000 in
theorem f_again (p a lv rs wt cb cc d lb lc : Nat) (B : Option Addr) (cur : Array Value) (w : World) (hp : w.heap[p]? = some (.cells (PC a lv rs wt (.slice (some ⟨cb, 0, none⟩) 1 cc) (.slice (some ⟨lb, 0, none⟩) 1 lc)) 120 (0, 0)))
    (hc : w.heap[cb]? = some (.cells cur 124 (0, 0))) (ht : cur.toList.take 3 = [.slice B 0 d, .bool true, .bool true]) (hl : w.cell? ⟨lb, 0, none⟩ = some (.int .i64 0)) (ne1 : p ≠ cb) (ne2 : p ≠ lb) (ne3 : cb ≠ lb) :
    Calls Tryz.prog 80 #[.pointer (some ⟨p, 0, none⟩)] w fun e w' => e = .returned (.int .i64 0) ∧ (∃ c lo, w'.heap[p]? = some (.cells (PC a lv rs wt c lo) 120 (0, 0))) ∧ But2 p cb w w' := by
  have k6 : w.cell? ⟨p, 6, none⟩ = some (.slice (some ⟨cb, 0, none⟩) 1 cc) := blk_cell hp 6
  have k8 : w.cell? ⟨p, 8, none⟩ = some (.slice (some ⟨lb, 0, none⟩) 1 lc) := blk_cell hp 8
  have f8 := blk_frozen hp 8
  have fc := blk_frozen hc 2
  have c1 : w.cell? ⟨cb, 1, none⟩ = some (.bool true) := by rw [blk_cell hc 1]; exact (take3_at ht).2.1
  have c2 : w.cell? ⟨cb, 2, none⟩ = some (.bool true) := by rw [blk_cell hc 2]; exact (take3_at ht).2.2
  have hp1 := set_other (set_blk hp 8 (.slice none 0 0)) 2 (.bool false) ne1
  have hc1 := set_blk (set_other hc 8 (.slice none 0 0) (fun e => ne1 e.symm)) 2 (.bool false)
  have ht1 := take3_set ht (.bool false)
  have hb1 := ((But2.refl p cb w).set ⟨p, 8, none⟩ (.slice none 0 0) (Or.inl rfl)).set ⟨cb, 2, none⟩ (.bool false) (Or.inr rfl)
  have H := Lib.hid (f_anew p a lv rs wt cb cc d B _ (.slice none 0 0) _ _ _ hp1 hc1 ht1)
  have hp1' := Lib.hid hp1
  have hc1' := Lib.hid hc1
  have ht1' := Lib.hid ht1
  have hb1' := Lib.hid hb1
  clear hp hc ht hp1 hc1 ht1 hb1
  go_enter Tryz.func80, Tryz.ntmps80
  go_wp2_with fail
  refine wp_loop_rounds 2 ?_
  rw [rounds_succ]
  go_wp2_with fail
  refine H.out.mono ?_
  rintro e w1 ⟨rfl, x1⟩
  have hp2 := x1.blk hp1'.out
  have hc2 := x1.blk hc1'.out
  have H2 := Lib.hid (f_look p a lv rs wt cb cc _ _ w1 hp2 hc2 ht1'.out ne1)
  have hb2 := Lib.hid (hb1'.out.ext x1)
  clear H x1 hp2 hc2 hp1' hc1' ht1' hb1' k6 k8 f8 fc c1 c2 hl
  go_wp2_with fail
  refine H2.out.mono ?_
  rintro e w2 ⟨rfl, lb', lc', cur', q1, q2, q3, q4, q5, q6⟩
  have hf := Lib.hid (And.intro q1 (hb2.out.trans q6))
  clear H2 q1 q2 q3 q4 q5 q6 hb2
  go_wp2_with fail
  rw [rounds_succ]
  go_wp2_with fail
  go_ret
  exact ⟨rfl, ⟨_, _, hf.out.1⟩, hf.out.2⟩

set_option maxRecDepth 100000 in
theorem f_propagate (p a lv rs wt cb cc d lb lc : Nat) (B : Option Addr) (cur : Array Value) (w : World) (hp : w.heap[p]? = some (.cells (PC a lv rs wt (.slice (some ⟨cb, 0, none⟩) 1 cc) (.slice (some ⟨lb, 0, none⟩) 1 lc)) 120 (0, 0)))
    (hc : w.heap[cb]? = some (.cells cur 124 (0, 0))) (ht : cur.toList.take 3 = [.slice B 0 d, .bool true, .bool true]) (hl : w.cell? ⟨lb, 0, none⟩ = some (.int .i64 0)) (ne1 : p ≠ cb) (ne2 : p ≠ lb) (ne3 : cb ≠ lb) :
    Calls Tryz.prog 54 #[.pointer (some ⟨p, 0, none⟩)] w fun e w' => e = .returned (.int .i64 0) ∧ (∃ c lo, w'.heap[p]? = some (.cells (PC a lv rs wt c lo) 120 (0, 0))) ∧ But2 p cb w w' := by
  have H := Lib.hid (f_again p a lv rs wt cb cc d lb lc B cur w hp hc ht hl ne1 ne2 ne3)
  clear hp hc ht hl ne1 ne2 ne3
  go_enter Tryz.func54, Tryz.ntmps54
  go_wp2_with fail
  refine H.out.mono ?_
  rintro e w' ⟨rfl, hx⟩
  have hx' := Lib.hid hx
  clear hx H
  go_wp2_with fail
  go_ret
  exact ⟨rfl, hx'.out⟩

theorem f_since (p a lv rs wt : Nat) (c lo : Value) (w : World) (hp : w.heap[p]? = some (.cells (PC a lv rs wt c lo) 120 (0, 0))) :
    Calls Tryz.prog 76 #[.pointer (some ⟨p, 0, none⟩), .int .i64 0] w fun e w' => e = .returned (.slice none 0 0) ∧ w = w' := by
  have k4 : w.cell? ⟨p, 4, none⟩ = some (.slice none 0 0) := blk_cell hp 4
  clear hp
  go_enter Tryz.func76, Tryz.ntmps76
  go_wp2_with fail
  go_ret
  exact ⟨rfl, rfl⟩

theorem f_level (p a lv rs wt : Nat) (c lo : Value) (w : World) (hp : w.heap[p]? = some (.cells (PC a lv rs wt c lo) 120 (0, 0))) :
    Calls Tryz.prog 55 #[.pointer (some ⟨p, 0, none⟩)] w fun e w' => e = .returned (.int .i64 0) ∧ w = w' := by
  have k4 : w.cell? ⟨p, 4, none⟩ = some (.slice none 0 0) := blk_cell hp 4
  clear hp
  go_enter Tryz.func55, Tryz.ntmps55
  go_wp2_with fail
  go_ret
  exact ⟨rfl, rfl⟩

theorem f_propBack (p a lv rs wt : Nat) (c lo : Value) (w : World) (hp : w.heap[p]? = some (.cells (PC a lv rs wt c lo) 120 (0, 0))) :
    Calls Tryz.prog 79 #[.pointer (some ⟨p, 0, none⟩), .int .i64 0] w fun e w' => e = .returned (.tuple #[]) ∧ w = w' := by
  have k4 : w.cell? ⟨p, 4, none⟩ = some (.slice none 0 0) := blk_cell hp 4
  clear hp
  go_enter Tryz.func79, Tryz.ntmps79
  go_wp2_with fail
  exact bodyPost_ret (results_none rfl _ _ _) rfl ⟨rfl, rfl⟩

theorem f_engBack (en p h pc a lv rs wt : Nat) (e3 e4 e5 e6 e7 : Value) (c lo : Value) (w : World) (he : w.heap[en]? = some (.cells #[.pointer (some ⟨p, 0, none⟩), .pointer (some ⟨h, 0, none⟩), .pointer (some ⟨pc, 0, none⟩), e3, e4, e5, e6, e7] 104 (0, 0)))
    (hp : w.heap[p]? = some (.cells (PC a lv rs wt c lo) 120 (0, 0))) :
    Calls Tryz.prog 53 #[.pointer (some ⟨en, 0, none⟩), .int .i64 0] w fun e w' => e = .returned (.tuple #[]) ∧ w = w' := by
  have k0 : w.cell? ⟨en, 0, none⟩ = some (.pointer (some ⟨p, 0, none⟩)) := blk_cell he 0
  have H1 := Lib.hid (f_since p a lv rs wt c lo w hp)
  have H2 := Lib.hid (f_propBack p a lv rs wt c lo w hp)
  clear hp he
  go_enter Tryz.func53, Tryz.ntmps53
  go_wp2_with (go_at_call 76; refine H1.out.mono ?_; rintro e w' ⟨rfl, rfl⟩)
  refine wp_loop_rounds 1 ?_
  rw [rounds_succ]
  go_wp2_with (go_at_call 79; refine H2.out.mono ?_; rintro e w' ⟨rfl, rfl⟩)
  go_end0
  exact ⟨rfl, rfl⟩

theorem f_engBackD (en p h pc a lv rs wt : Nat) (e3 e4 e5 e6 e7 : Value) (c lo : Value) (w : World) (he : w.heap[en]? = some (.cells #[.pointer (some ⟨p, 0, none⟩), .pointer (some ⟨h, 0, none⟩), .pointer (some ⟨pc, 0, none⟩), e3, e4, e5, e6, e7] 104 (0, 0)))
    (hp : w.heap[p]? = some (.cells (PC a lv rs wt c lo) 120 (0, 0))) :
    CallsD Tryz.prog 53 #[.pointer (some ⟨en, 0, none⟩), .int .i64 0] .returning w fun e u' w' => u' = .returning ∧ (e = .returned (.tuple #[]) ∧ w = w') := by
  have k0 : w.cell? ⟨en, 0, none⟩ = some (.pointer (some ⟨p, 0, none⟩)) := blk_cell he 0
  have H1 := Lib.hid (f_since p a lv rs wt c lo w hp)
  have H2 := Lib.hid (f_propBack p a lv rs wt c lo w hp)
  clear hp he
  go_enter_d Tryz.func53, Tryz.ntmps53
  go_wp2_with (go_at_call 76; refine H1.out.mono ?_; rintro e w' ⟨rfl, rfl⟩)
  refine wp_loop_rounds 1 ?_
  rw [rounds_succ]
  go_wp2_with (go_at_call 79; refine H2.out.mono ?_; rintro e w' ⟨rfl, rfl⟩)
  go_end0
  exact ⟨rfl, rfl⟩

end Go.Proofs.YtkdpdlboggggoaaGreatDoor
