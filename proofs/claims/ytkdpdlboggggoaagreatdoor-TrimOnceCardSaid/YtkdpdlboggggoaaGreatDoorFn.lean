/- The run of first(): Solve. -/
import Derived.Test.YtkdpdlboggggoaaGreatDoorFm
namespace Go.Proofs.YtkdpdlboggggoaaGreatDoor
open Go.RowKit

set_option maxRecDepth 100000 in
set_option maxHeartbeats 1000000 in
theorem f_solve (en p h pc a lv rs wt cb cc d lb lc : Nat) (B : Option Addr) (cur : Array Value) (sv : Value) (w0 w : World) (he : w.heap[en]? = some (.cells (EC p h pc sv (.slice none 0 0)) 104 (0, 0)))
    (hp : w.heap[p]? = some (.cells (PC a lv rs wt (.slice (some ⟨cb, 0, none⟩) 1 cc) (.slice (some ⟨lb, 0, none⟩) 1 lc)) 120 (0, 0)))
    (hc : w.heap[cb]? = some (.cells cur 124 (0, 0))) (ht : cur.toList.take 3 = [.slice B 0 d, .bool true, .bool true]) (hl : w.cell? ⟨lb, 0, none⟩ = some (.int .i64 0)) (ne1 : p ≠ cb) (ne2 : p ≠ lb) (ne3 : cb ≠ lb) (ne4 : en ≠ p) (ne5 : en ≠ cb)
    (x0 : Ext w0 w) (s1 : w0.heap.size ≤ en) (s2 : w0.heap.size ≤ p) (s3 : w0.heap.size ≤ cb) :
    Calls Tryz.prog 32 #[.pointer (some ⟨en, 0, none⟩), .slice none 0 0] w fun e w' => e = .returned (.tuple #[.agg #[.bool false, .slice none 0 0, .slice none 0 0], .nilIface]) ∧ Ext w0 w' := by
  have x1 := (Ext.refl w).alloc (.cells #[.pointer (some ⟨en, 0, none⟩)] 67)
  have x2 := x1.alloc (.cells #[.bool false, .slice none 0 0, .slice none 0 0] 71)
  have hlt : en < w.heap.size := (Array.getElem?_eq_some_iff.1 he).1
  have hlp : p < w.heap.size := (Array.getElem?_eq_some_iff.1 hp).1
  have hlc : cb < w.heap.size := (Array.getElem?_eq_some_iff.1 hc).1
  have l0 := x0.size
  have H := Lib.hid (f_propagate p a lv rs wt cb cc d lb lc B cur _ (x2.blk hp) (x2.blk hc) ht (x2.cell hl) ne1 ne2 ne3)
  have hbox := (Below.heap_alloc _ _ _ (by simp)).trans (heap_alloc_new w (.cells #[.pointer (some ⟨en, 0, none⟩)] 67)) (a := ((w.alloc (.cells #[.pointer (some ⟨en, 0, none⟩)] 67)).alloc (.cells #[.bool false, .slice none 0 0, .slice none 0 0] 71)).heap[w.heap.size]?)
  have hres := heap_alloc2 w (.cells #[.pointer (some ⟨en, 0, none⟩)] 67) (.cells #[.bool false, .slice none 0 0, .slice none 0 0] 71)
  have hen := x2.blk he
  have hx := x0.trans x2
  have kb : ((w.alloc (.cells #[.pointer (some ⟨en, 0, none⟩)] 67)).alloc (.cells #[.bool false, .slice none 0 0, .slice none 0 0] 71)).cell? ⟨w.heap.size, 0, none⟩ = some (.pointer (some ⟨en, 0, none⟩)) := blk_cell hbox 0
  have ke : ((w.alloc (.cells #[.pointer (some ⟨en, 0, none⟩)] 67)).alloc (.cells #[.bool false, .slice none 0 0, .slice none 0 0] 71)).cell? ⟨en, 0, none⟩ = some (.pointer (some ⟨p, 0, none⟩)) := blk_cell hen 0
  have hsz : ((w.alloc (.cells #[.pointer (some ⟨en, 0, none⟩)] 67)).alloc (.cells #[.bool false, .slice none 0 0, .slice none 0 0] 71)).heap.size = w.heap.size + 2 := by simp
  have hsz' := Lib.hid hsz
  have hbox' := Lib.hid hbox
  have hres' := Lib.hid hres
  have hen' := Lib.hid hen
  have hx' := Lib.hid hx
  clear he hp hc ht hl x1 x2 hbox hres hen hx hsz x0
  go_enter_defers Tryz.func32, Tryz.ntmps32
  go_wp2_with (go_at_call 43; refine (containsI_empty _ _ _ _).mono ?_; rintro e w' ⟨rfl, rfl⟩)
  refine wp_loop_rounds 1 ?_
  rw [rounds_succ]
  go_wp2_with fail
  refine H.out.mono ?_
  rintro e w1 ⟨rfl, ⟨c1, lo1, hp1⟩, hb1⟩
  have g1 := hsz'.out
  have hen1 := (hb1.block en (by omega) ne4 ne5).trans hen'.out
  have hbox1 := (hb1.block w.heap.size (by omega) (by omega) (by omega)).trans hbox'.out
  have hres1 := (hb1.block (w.heap.size + 1) (by omega) (by omega) (by omega)).trans hres'.out
  have hx1 := But2.new hx'.out hb1 s2 s3
  have kb1 : w1.cell? ⟨w.heap.size, 0, none⟩ = some (.pointer (some ⟨en, 0, none⟩)) := blk_cell hbox1 0
  have ke1 : w1.cell? ⟨en, 0, none⟩ = some (.pointer (some ⟨p, 0, none⟩)) := blk_cell hen1 0
  have l1 := hb1.size
  have L := Lib.hid (f_level p a lv rs wt c1 lo1 w1 hp1)
  have C := Lib.hid (f_cannot en p h pc sv w1 hen1)
  have hp1' := Lib.hid hp1
  have hres1' := Lib.hid hres1
  have hx1' := Lib.hid hx1
  clear H hp1 hb1 hen1 hbox1 hres1 hx1 hsz' hbox' hres' hen' hx' kb ke
  have l2 : w.heap.size + 2 ≤ w1.heap.size := by omega
  clear l1 g1
  go_wp2_with (go_at_call 55; refine L.out.mono ?_; rintro e w' ⟨rfl, rfl⟩)
  refine C.out.mono ?_
  rintro e w2 ⟨rfl, ⟨log, hen2⟩, hb2⟩
  have hres2 := (hb2.block (w.heap.size + 1) (by omega) (by omega) (by omega)).trans hres1'.out
  have hp2 := (hb2.block p (by omega) (fun e => ne4 e.symm) (fun e => ne4 e.symm)).trans hp1'.out
  have hx2 := But2.new hx1'.out hb2 s1 s1
  have r0 : w2.cell? ⟨w.heap.size + 1, 0, none⟩ = some (.bool false) := blk_cell hres2 0
  have r1 : w2.cell? ⟨w.heap.size + 1, 1, none⟩ = some (.slice none 0 0) := blk_cell hres2 1
  have r2 : w2.cell? ⟨w.heap.size + 1, 2, none⟩ = some (.slice none 0 0) := blk_cell hres2 2
  have rf := fun i => blk_frozen hres2 i
  have l3 := hb2.size
  have hres2' := Lib.hid hres2
  have hp2' := Lib.hid hp2
  have hx2' := Lib.hid hx2
  have hen2' := Lib.hid hen2
  clear C L hp1' hres1' hx1' hres2 hp2 hx2 hen2 hb2 kb1 ke1
  go_wp2_with fail
  generalize hW : World.setCell _ ⟨w.heap.size + 1, 2, none⟩ _ = W
  have hb : W.heap[w.heap.size + 1]? = some (.cells #[.bool false, .slice none 0 0, .slice none 0 0] 71 (0, 0)) := by
    rw [← hW]
    exact set_blk (set_blk (set_blk hres2'.out 0 _) 1 _) 2 _
  have hen : W.heap[en]? = some (.cells (EC p h pc sv log) 104 (0, 0)) := by
    rw [← hW]
    exact set_other (set_other (set_other hen2'.out 0 _ (by omega)) 1 _ (by omega)) 2 _ (by omega)
  have hp : W.heap[p]? = some (.cells (PC a lv rs wt c1 lo1) 120 (0, 0)) := by
    rw [← hW]
    exact set_other (set_other (set_other hp2'.out 0 _ (by omega)) 1 _ (by omega)) 2 _ (by omega)
  have hbut : Ext w0 W := by
    have h0 := ((((But2.refl (w.heap.size + 1) (w.heap.size + 1) w2).set ⟨w.heap.size + 1, 0, none⟩ (.bool false) (Or.inr rfl)).set ⟨w.heap.size + 1, 1, none⟩ (.slice none 0 0) (Or.inr rfl)).set ⟨w.heap.size + 1, 2, none⟩ (.slice none 0 0) (Or.inr rfl))
    rw [hW] at h0
    exact But2.new hx2'.out h0 (by omega) (by omega)
  have c0 : W.cell? ⟨w.heap.size + 1, 0, none⟩ = some (.bool false) := blk_cell hb 0
  have c1 : W.cell? ⟨w.heap.size + 1, 1, none⟩ = some (.slice none 0 0) := blk_cell hb 1
  have c2 : W.cell? ⟨w.heap.size + 1, 2, none⟩ = some (.slice none 0 0) := blk_cell hb 2
  refine leaves_cons (f := 53) (args := #[.pointer (some ⟨en, 0, none⟩), .int .i64 0]) (by simp) (by simp [go_sem]) ?_
  refine (f_engBackD en p h pc a lv rs wt _ _ _ _ _ _ _ W hen hp).mono ?_
  rintro e u' w3 ⟨rfl, rfl, rfl⟩
  refine ⟨.tuple #[.agg #[.bool false, .slice none 0 0, .slice none 0 0], .nilIface], by simp [results, Tryz.results32, go_sem, c0, c1, c2], rfl, hbut⟩

end Go.Proofs.YtkdpdlboggggoaaGreatDoor
