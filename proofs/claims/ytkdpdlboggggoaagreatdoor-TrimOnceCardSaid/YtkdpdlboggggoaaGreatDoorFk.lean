/- The run of first(): Prop.Add of no literals. -/
import Derived.Test.YtkdpdlboggggoaaGreatDoorFj
import Derived.Deep.DeepCutAuto
import Derived.Deep.RegionLaw
namespace Go.Proofs.YtkdpdlboggggoaaGreatDoor
open Go.RowKit

theorem info_clause : (Tryz.prog.info? 124).map (fun i => (i.zero, i.size, i.bytes)) = some (some (.agg #[.slice none 0 0, .bool false, .bool false]), 3, 32) := by kernel_rfl

theorem But2.new2 {p q : Nat} {a b c : World} (h : But2 p p a b) (k : But2 p q b c) (hq : a.heap.size ≤ q) : But2 p p a c :=
  ⟨k.os.trans h.os, k.tape.trans h.tape, k.output.trans h.output, Nat.le_trans h.size k.size, fun i hi h1 h2 => (k.block i (Nat.lt_of_lt_of_le hi h.size) h1 (by omega)).trans (h.block i hi h1 h2)⟩

/-- What Add of no literals leaves in a Prop without clauses. -/
def AddedZ (p a lv rs wt : Nat) (w W : World) : Prop := ∃ cb cc B d lb lc cur, W.heap[p]? = some (.cells (PC a lv rs wt (.slice (some ⟨cb, 0, none⟩) 1 cc) (.slice (some ⟨lb, 0, none⟩) 1 lc)) 120 (0, 0)) ∧
    W.heap[cb]? = some (.cells cur 124 (0, 0)) ∧ cur.toList.take 3 = [.slice B 0 d, .bool true, .bool true] ∧ W.cell? ⟨lb, 0, none⟩ = some (.int .i64 0) ∧
    w.heap.size ≤ cb ∧ w.heap.size ≤ lb ∧ p ≠ cb ∧ p ≠ lb ∧ cb ≠ lb ∧ But2 p p w W

set_option maxRecDepth 100000 in
set_option maxHeartbeats 1000000 in
theorem f_propAdd (p a lv rs wt q c : Nat) (w : World) (hp : w.heap[p]? = some (.cells (PC a lv rs wt (.slice none 0 0) (.slice none 0 0)) 120 (0, 0))) :
    Calls Tryz.prog 51 #[.pointer (some ⟨p, 0, none⟩), .slice (some ⟨q, 0, none⟩) 0 c] w fun e w' => e = .returned (.tuple #[.int .i64 0, .bool true]) ∧ AddedZ p a lv rs wt w w' := by
  obtain ⟨i0, hi, hz0, hz1, hz2⟩ := info_parts info_clause
  have hlt : p < w.heap.size := (Array.getElem?_eq_some_iff.1 hp).1
  have hp' := Lib.hid hp
  clear hp
  go_enter Tryz.func51, Tryz.ntmps51
  go_wp2_with fail
  refine (norm0 q c _).mono ?_
  rintro e w1 ⟨B, d, rfl, hw1⟩
  have x1 := (Ext.refl w).alloc (.cells #[.pointer (some ⟨p, 0, none⟩)] 97)
  have hb := hw1.blk (heap_alloc_new w (.cells #[.pointer (some ⟨p, 0, none⟩)] 97))
  have h2 := (x1.trans hw1).blk hp'.out
  have kb : w1.cell? ⟨w.heap.size, 0, none⟩ = some (.pointer (some ⟨p, 0, none⟩)) := blk_cell hb 0
  have k6 : w1.cell? ⟨p, 6, none⟩ = some (.slice none 0 0) := blk_cell h2 6
  have f6 := blk_frozen h2 6
  have hx := Lib.hid (x1.trans hw1)
  have h2' := Lib.hid h2
  clear x1 hw1 hb h2
  have l1 : p < w1.heap.size := (Array.getElem?_eq_some_iff.1 h2'.out).1
  have l2 : w.heap.size < w1.heap.size := World.block_lt_of_cell? w1 _ kb
  go_upto_region 5 with (go_at_call 43; refine (containsI_empty _ _ _ _).mono ?_; rintro e w' ⟨rfl, rfl⟩)
  go_cut [] (fun wx => ∃ cb cc cur, wx.heap[p]? = some (.cells (PC a lv rs wt (.slice (some ⟨cb, 0, none⟩) 1 cc) (.slice none 0 0)) 120 (0, 0)) ∧ wx.heap[cb]? = some (.cells cur 124 (0, 0)) ∧ cur.toList.take 3 = [.slice B 0 d, .bool true, .bool false] ∧ w1.heap.size ≤ cb ∧ wx.cell? ⟨w.heap.size, 0, none⟩ = some (.pointer (some ⟨p, 0, none⟩)) ∧ But2 p p w1 wx)
  case first =>
    go_region_law ((refine step_app_nilN rfl (.tmp 32) (.tmp 35) 118 124 rfl i0 _ 3 32 Tryz.underlying118 hi hz0 hz1 hz2 rfl (by omega) (by simp [Act.eval, Act.put]) w1.heap.size [.slice B 0 d, .bool true, .bool false] (by simp [Act.eval, Act.put]) rfl (heap_alloc_new w1.drew _) (by simp [Value.oneCell']) (by omega) ?_; intro cb cc cur w3 q1 q2 q3 q4; have x3 := ((Ext.refl w1).drew.alloc (.cells #[.slice B 0 d, .bool true, .bool false] 124)).trans q4; have z6 : w3.cell? ⟨p, 6, none⟩ = some (.slice none 0 0) := x3.cell k6; have zk : w3.cell? ⟨w.heap.size, 0, none⟩ = some (.pointer (some ⟨p, 0, none⟩)) := x3.cell kb; have zf := blk_frozen (x3.blk h2'.out) 6; have x3' := Lib.hid x3; have q1' := Lib.hid q1; have q2' := Lib.hid q2; clear x3 q4 q1 q2))
    all_goals (
      go_wp2_with fail
      go_meet
      have hcb : w1.heap.size < cb := by simp at q3; omega
      have zp := x3'.out.blk h2'.out
      exact ⟨cb, cc, cur, set_blk zp 6 _, set_other q1'.out 6 _ (by omega), q2'.out, by omega, by rw [World.cell?_setCell_other _ _ _ _ (fun e => by injection e with e; omega)]; exact x3'.out.cell kb, (But2.of_ext x3'.out).set _ _ (Or.inl rfl)⟩)
  case rest =>
    obtain ⟨cb, cc, cur, g1, g2, g3, g4, g5, g6⟩ := hcut
    have g1' := Lib.hid g1
    have g2' := Lib.hid g2
    have g3' := Lib.hid g3
    have g6' := Lib.hid g6
    clear g1 g2 g3 g6
    go_wp2_with fail
    have l3 : w1.heap.size ≤ wc.heap.size := g6'.out.size
    have l4 : cb < wc.heap.size := (Array.getElem?_eq_some_iff.1 g2'.out).1
    refine (f_look p a lv rs wt cb cc cur _ _ g1'.out g2'.out g3'.out (by omega)).mono ?_
    rintro e w4 ⟨rfl, lb, lc, cur', r1, r2, r3, r4, r5, r6⟩
    have r1' := Lib.hid r1
    have r2' := Lib.hid r2
    have r3' := Lib.hid r3
    have r6' := Lib.hid (But2.new2 (g6'.out) r6 g4)
    clear r1 r2 r3 r6
    go_wp2_with fail
    go_ret2
    have l5 := hx.out.size
    exact ⟨rfl, cb, cc, B, d, lb, lc, cur', r1'.out, r2'.out, r3'.out, r4, by omega, by omega, by omega, by omega, by omega, (But2.of_ext hx.out).trans r6'.out⟩

end Go.Proofs.YtkdpdlboggggoaaGreatDoor
