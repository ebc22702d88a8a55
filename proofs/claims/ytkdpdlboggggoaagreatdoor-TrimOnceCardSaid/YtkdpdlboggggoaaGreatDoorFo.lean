/- The run of first(): trim.enough. -/
import Derived.Test.YtkdpdlboggggoaaGreatDoorFa
import Derived.Test.YtkdpdlboggggoaaGreatDoorFb
import Derived.Test.YtkdpdlboggggoaaGreatDoorFn
namespace Go.Proofs.YtkdpdlboggggoaaGreatDoor
open Go.RowKit

theorem f_err (g m : Nat) (w : World) (hg : w.heap[g]? = some (.cells #[.int .i64 0, .slice none 0 0, .map (some m), .nilIface] 83 (0, 0))) :
    Calls Tryz.prog 26 #[.pointer (some ⟨g, 0, none⟩)] w fun e w' => e = .returned .nilIface ∧ w = w' := by
  have k3 : w.cell? ⟨g, 3, none⟩ = some .nilIface := blk_cell hg 3
  clear hg
  go_enter Tryz.func26, Tryz.ntmps26
  go_wp2_with fail
  go_ret
  exact ⟨rfl, rfl⟩

def MV (b : Nat) : Array Value := #[.bool true, .int .i64 0, .int .i64 0, .slice none 0 0, .slice (some ⟨b, 0, none⟩) 1 1]

set_option maxRecDepth 100000 in
set_option maxHeartbeats 4000000 in
theorem f_enough (b mv pc : Nat) (r : Value) (w0 w : World) (hc : w.cell? ⟨b, 0, none⟩ = some (.int .i64 0)) (hm : w.cell? ⟨mv, 0, none⟩ = some r) (x0 : Ext w0 w) :
    Calls Tryz.prog 17 #[.agg (MV b), .pointer (some ⟨pc, 0, none⟩), .slice (some ⟨mv, 0, none⟩) 1 1] w fun e w' => e = .returned (.tuple #[.bool true, .nilIface]) ∧ Ext w0 w' := by
  have x1 := (Ext.refl w).alloc (.cells (MV b) 40)
  have hbox := heap_alloc_new w (.cells (MV b) 40)
  have xx := x0.trans x1
  have hc1 := x1.cell hc
  have hm1 := x1.cell hm
  have kb : (w.alloc (.cells (MV b) 40)).cell? ⟨w.heap.size, 1, none⟩ = some (.int .i64 0) := blk_cell hbox 1
  have xx' := Lib.hid xx
  have hc1' := Lib.hid hc1
  have hm1' := Lib.hid hm1
  have hbox' := Lib.hid hbox
  clear x0 x1 hc hm xx hc1 hm1 hbox
  unfold MV
  go_enter Tryz.func17, Tryz.ntmps17
  go_wp2_with fail
  refine (f_graphNew _).mono ?_
  rintro e w1 ⟨g, m, rfl, hg, x2, hg2⟩
  have hb1 := x2.blk hbox'.out
  have k0 : w1.cell? ⟨w.heap.size, 0, none⟩ = some (.bool true) := blk_cell hb1 0
  have k1 : w1.cell? ⟨w.heap.size, 1, none⟩ = some (.int .i64 0) := blk_cell hb1 1
  have k2 : w1.cell? ⟨w.heap.size, 2, none⟩ = some (.int .i64 0) := blk_cell hb1 2
  have k3 : w1.cell? ⟨w.heap.size, 3, none⟩ = some (.slice none 0 0) := blk_cell hb1 3
  have k4 : w1.cell? ⟨w.heap.size, 4, none⟩ = some (.slice (some ⟨b, 0, none⟩) 1 1) := blk_cell hb1 4
  have km : w1.cell? ⟨mv, 0, none⟩ = some r := x2.cell hm1'.out
  have hc1 := x2.cell hc1'.out
  have hg' := Lib.hid hg
  have hx' := Lib.hid (xx'.out.trans x2)
  have hc1' := Lib.hid hc1
  have HM := Lib.hid (fun (W : World) (hW : Ext w1 W) (x : Value) => f_move g b x W (hW.cell hc1))
  obtain ⟨i0, hi, hz0, hz1, hz2⟩ := info_parts info_int
  clear hb1 hg x2 hc1 xx' hbox' hm1' kb
  go_wp2_with fail
  refine wp_loop_rounds 2 ?_
  rw [rounds_succ]
  go_wp2_with fail
  go_region_held3 (fun W => Ext w1 W ∧ W.cell? ⟨w.heap.size, 0, none⟩ = some (.bool true) ∧ W.cell? ⟨w.heap.size, 1, none⟩ = some (.int .i64 0) ∧ W.cell? ⟨w.heap.size, 2, none⟩ = some (.int .i64 0) ∧ W.cell? ⟨w.heap.size, 3, none⟩ = some (.slice none 0 0) ∧ W.cell? ⟨w.heap.size, 4, none⟩ = some (.slice (some ⟨b, 0, none⟩) 1 1))
    (first | exact ⟨(Ext.refl _).drew, k0, k1, k2, k3, k4⟩ | exact S5_ext q4 (by assumption) | exact S5_ext he3 (by assumption) | exact S5_ext he2 (by assumption) | exact S5_ext ((Ext.refl _).alloc _) (by assumption))
    (first
      | (go_at_call 25; refine (HM.out _ ?_ _).mono ?_; exact And.left (by assumption); rintro e w2 ⟨rfl, he2⟩)
      | (go_at_call 24; refine (f_want b _).mono ?_; rintro e w3 ⟨rfl, he3⟩)
      | (refine step_app_nilN rfl (.tmp 29) (.tmp 36) 22 3 rfl i0 _ 1 8 Tryz.underlying22 hi hz0 hz1 hz2 rfl (by omega) (by simp [Act.eval, Act.put]) w3.heap.size [.int .i64 0] (by simp [Act.eval, Act.put]) rfl (heap_alloc_new w3 _) (by simp [Value.oneCell']) (by omega) ?_; intro A c cl w4 q1 q2 q3 q4; have he4 := ((Ext.refl w3).alloc (.cells #[.int .i64 0] 3)).trans q4))
  have x4 : Ext w1 w4 := And.left (by assumption)
  have ka : w4.cell? ⟨A, 0, none⟩ = some (.int .i64 0) := by
    rw [blk_cell q1]
    have : (cl.toList.take 1)[0]? = some (.int .i64 0) := by rw [q2]; rfl
    simpa using this
  have hg4 := x4.blk hg'.out
  have HE := Lib.hid (f_err g m w4 hg4)
  have HC := Lib.hid (f_circuit g m w4 hg4)
  have ka' := Lib.hid ka
  have x4' := Lib.hid (hx'.out.trans x4)
  clear q1 q2 q3 q4 he2 he3 he4 x4 ka hg4 hg' hx' HM km k0 k1 k2 k3 k4 hc1'
  go_wp2_with fail
  rw [rounds_succ]
  go_wp2_with fail
  refine HE.out.mono ?_
  rintro e w5 ⟨rfl, rfl⟩
  go_wp2_with fail
  refine HC.out.mono ?_
  rintro e w5 ⟨rfl, x5⟩
  have x5' := Lib.hid (x4'.out.trans x5)
  have HN := Lib.hid (f_encode A c w5 (x5.cell ka'.out))
  clear x5 HE HC ka' x4'
  go_wp2_with fail
  refine HN.out.mono ?_
  rintro e w6 ⟨q, qc, q2, c2, rfl, kq, x6⟩
  have kq' := Lib.hid kq
  have x6' := Lib.hid (x5'.out.trans x6)
  clear kq x6 HN x5'
  go_wp2_with fail
  have x7 := (Ext.refl w6).alloc (.cells #[.int .i64 0, .slice (some ⟨q, 0, none⟩) 1 qc] 62)
  refine (f_litsCheck q qc (some ⟨q2, 0, none⟩) c2 _ (x7.cell kq'.out)).mono ?_
  rintro e w8 ⟨rfl, x8⟩
  have hcnf := x8.blk (heap_alloc_new w6 (.cells #[.int .i64 0, .slice (some ⟨q, 0, none⟩) 1 qc] 62))
  have n0 : w8.cell? ⟨w6.heap.size, 0, none⟩ = some (.int .i64 0) := blk_cell hcnf 0
  have n1 : w8.cell? ⟨w6.heap.size, 1, none⟩ = some (.slice (some ⟨q, 0, none⟩) 1 qc) := blk_cell hcnf 1
  have kq8 := (x7.trans x8).cell kq'.out
  have x8' := Lib.hid (x6'.out.trans (x7.trans x8))
  have kq8' := Lib.hid kq8
  clear x7 x8 hcnf kq8 kq' x6'
  go_wp2_with fail
  refine (f_paced pc _).mono ?_
  rintro e w9 ⟨en, rfl, p, h, pcc, a, v, lv, rs, wt, sv, sc, he, hp, ha, s1, s2, s3, ne, x9⟩
  have n1' := x9.cell n1
  have kq9 := x9.cell kq8'.out
  have l0 := x8'.out.size
  have l9 := x9.size
  have len : en < w9.heap.size := (Array.getElem?_eq_some_iff.1 he).1
  have HA := Lib.hid (f_engAdd en p h pcc a lv rs wt q2 c2 (.slice sv 1 sc) w9 he hp ne)
  have x9' := Lib.hid (x8'.out.trans x9)
  have x89' := Lib.hid x9
  clear he hp ha x9 n0 n1 kq8' x8'
  go_wp2_with fail
  refine wp_loop_rounds 2 ?_
  rw [rounds_succ]
  go_wp2_with fail
  refine HA.out.mono ?_
  rintro e w10 ⟨rfl, ⟨cb, cc, B, d, lb, lc, cur, g1, g2, g3, g4, g5, g6, g7, g8, g9, g10⟩, hen⟩
  have l10 := g10.size
  have x10 : Ext w0 w10 := But2.new x9'.out g10 (by omega) (by omega)
  have HS := Lib.hid (f_solve en p h pcc a lv rs wt cb cc d lb lc B cur (.slice sv 1 sc) w0 w10 hen g1 g2 g3 g4 g7 g8 g9 ne (by omega) x10 (by omega) (by omega) (by omega))
  clear g1 g2 g3 g4 g5 g6 g7 g8 g9 g10 hen HA kq9 n1' x10
  go_wp2_with fail
  rw [rounds_succ]
  go_wp2_with fail
  refine HS.out.mono ?_
  rintro e w11 ⟨rfl, x11⟩
  have x11' := Lib.hid x11
  clear HS x11
  go_wp2_with fail
  go_ret2
  exact ⟨rfl, x11'.out.alloc _⟩

end Go.Proofs.YtkdpdlboggggoaaGreatDoor
