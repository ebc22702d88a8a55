/- The run of first(): trim.Enough. -/
import Derived.Test.YtkdpdlboggggoaaGreatDoorFo
import Derived.Test.YtkdpdlboggggoaaGreatDoorTm
namespace Go.Proofs.YtkdpdlboggggoaaGreatDoor
open Go.RowKit

theorem S11_ext {w a b : World} {g k : Nat} {v0 v1 v2 v3 v4 u0 u1 u2 u3 u4 u5 : Value} (he : Ext a b)
    (h : Ext w a ∧ a.cell? ⟨g, 0, none⟩ = some v0 ∧ a.cell? ⟨g, 1, none⟩ = some v1 ∧ a.cell? ⟨g, 2, none⟩ = some v2 ∧ a.cell? ⟨g, 3, none⟩ = some v3 ∧ a.cell? ⟨g, 4, none⟩ = some v4 ∧
      a.cell? ⟨k, 0, none⟩ = some u0 ∧ a.cell? ⟨k, 1, none⟩ = some u1 ∧ a.cell? ⟨k, 2, none⟩ = some u2 ∧ a.cell? ⟨k, 3, none⟩ = some u3 ∧ a.cell? ⟨k, 4, none⟩ = some u4 ∧ a.cell? ⟨k, 5, none⟩ = some u5) :
    Ext w b ∧ b.cell? ⟨g, 0, none⟩ = some v0 ∧ b.cell? ⟨g, 1, none⟩ = some v1 ∧ b.cell? ⟨g, 2, none⟩ = some v2 ∧ b.cell? ⟨g, 3, none⟩ = some v3 ∧ b.cell? ⟨g, 4, none⟩ = some v4 ∧
      b.cell? ⟨k, 0, none⟩ = some u0 ∧ b.cell? ⟨k, 1, none⟩ = some u1 ∧ b.cell? ⟨k, 2, none⟩ = some u2 ∧ b.cell? ⟨k, 3, none⟩ = some u3 ∧ b.cell? ⟨k, 4, none⟩ = some u4 ∧ b.cell? ⟨k, 5, none⟩ = some u5 := by
  obtain ⟨h0, h1, h2, h3, h4, h5, h6, h7, h8, h9, h10, h11⟩ := h
  exact ⟨h0.trans he, he.cell h1, he.cell h2, he.cell h3, he.cell h4, he.cell h5, he.cell h6, he.cell h7, he.cell h8, he.cell h9, he.cell h10, he.cell h11⟩

def SV : Array Value := #[.slice none 0 0, .slice none 0 0, .slice none 0 0, .slice none 0 0, .int .i64 0, .int .i64 0]

set_option maxRecDepth 100000 in
set_option maxHeartbeats 4000000 in
theorem f_Enough (b mv A c : Nat) (w : World) (hc : w.cell? ⟨b, 0, none⟩ = some (.int .i64 0)) (hm : w.heap[mv]? = some (.cells #[.slice (some ⟨A, 0, none⟩) 0 c] 29 (0, 0))) :
    Calls Tryz.prog 10 #[.agg (MV b), .agg SV, .slice (some ⟨mv, 0, none⟩) 1 1] w fun e w' => e = .returned (.tuple #[.bool true, .nilIface]) ∧ Ext w w' := by
  have x1 := (Ext.refl w).alloc (.cells (MV b) 40)
  have x2 := x1.alloc (.cells SV 42)
  have hb1 := (Below.heap_alloc (w.alloc (.cells (MV b) 40)) (.cells SV 42) w.heap.size (by simp)).trans (heap_alloc_new w (.cells (MV b) 40))
  have hb2 := heap_alloc2 w (.cells (MV b) 40) (.cells SV 42)
  have hm2 := x2.blk hm
  have hv : SlT ((w.alloc (.cells (MV b) 40)).alloc (.cells SV 42)) 29 (some ⟨mv, 0, none⟩) [.slice (some ⟨A, 0, none⟩) 0 c] := fun _ =>
    ⟨_, rfl, by simp [tyAt, hm2], fun j u hj => by
      cases j with
      | zero => simp at hj; subst hj; exact blk_cell hm2 0
      | succ j => simp at hj⟩
  have hr : BRows ((w.alloc (.cells (MV b) 40)).alloc (.cells SV 42)) 4 [.slice (some ⟨A, 0, none⟩) 0 c] [[]] := by
    have := (BRows.nil ((w.alloc (.cells (MV b) 40)).alloc (.cells SV 42)) 4).snoc (v := .slice (some ⟨A, 0, none⟩) 0 c) (bs := []) ⟨_, _, rfl, SlT.nil _ _ _⟩
    simpa using this
  have H := Lib.hid (trimCheck_ok true 0 0 0 [] 0 none (some ⟨b, 0, none⟩) 0 0 1 (some ⟨mv, 0, none⟩) 1 1 _ _ _ rc0 rfl rfl (SlP.nil _ _ _) (sl_one (x2.cell hc)) (by simp) rfl (by omega) hv hr)
  have hc2 := Lib.hid (x2.cell hc)
  have hb1' := Lib.hid hb1
  have hb2' := Lib.hid hb2
  have hm2' := Lib.hid hm2
  have x2' := Lib.hid x2
  have k0 : ((w.alloc (.cells (MV b) 40)).alloc (.cells SV 42)).cell? ⟨w.heap.size, 0, none⟩ = some (.bool true) := blk_cell hb1 0
  have k1 : ((w.alloc (.cells (MV b) 40)).alloc (.cells SV 42)).cell? ⟨w.heap.size, 1, none⟩ = some (.int .i64 0) := blk_cell hb1 1
  have k2 : ((w.alloc (.cells (MV b) 40)).alloc (.cells SV 42)).cell? ⟨w.heap.size, 2, none⟩ = some (.int .i64 0) := blk_cell hb1 2
  have k3 : ((w.alloc (.cells (MV b) 40)).alloc (.cells SV 42)).cell? ⟨w.heap.size, 3, none⟩ = some (.slice none 0 0) := blk_cell hb1 3
  have k4 : ((w.alloc (.cells (MV b) 40)).alloc (.cells SV 42)).cell? ⟨w.heap.size, 4, none⟩ = some (.slice (some ⟨b, 0, none⟩) 1 1) := blk_cell hb1 4
  clear hb1 hb2 hm2 x1 x2 hm hc hv hr
  go_enter Tryz.func10, Tryz.ntmps10
  unfold MV SV at k0 k1 k2 k3 k4
  unfold MV SV
  go_wp2_with fail
  refine H.out.mono ?_
  rintro e w1 ⟨rfl, y1⟩
  have y1 : Ext _ w1 := y1
  have e0 := y1.blk hb1'.out
  have e1 := y1.blk hb2'.out
  have hm3 := y1.blk hm2'.out
  have j0 : w1.cell? ⟨w.heap.size, 0, none⟩ = some (.bool true) := blk_cell e0 0
  have j1 : w1.cell? ⟨w.heap.size, 1, none⟩ = some (.int .i64 0) := blk_cell e0 1
  have j2 : w1.cell? ⟨w.heap.size, 2, none⟩ = some (.int .i64 0) := blk_cell e0 2
  have j3 : w1.cell? ⟨w.heap.size, 3, none⟩ = some (.slice none 0 0) := blk_cell e0 3
  have j4 : w1.cell? ⟨w.heap.size, 4, none⟩ = some (.slice (some ⟨b, 0, none⟩) 1 1) := blk_cell e0 4
  have i0 : w1.cell? ⟨w.heap.size + 1, 0, none⟩ = some (.slice none 0 0) := blk_cell e1 0
  have i1 : w1.cell? ⟨w.heap.size + 1, 1, none⟩ = some (.slice none 0 0) := blk_cell e1 1
  have i2 : w1.cell? ⟨w.heap.size + 1, 2, none⟩ = some (.slice none 0 0) := blk_cell e1 2
  have i3 : w1.cell? ⟨w.heap.size + 1, 3, none⟩ = some (.slice none 0 0) := blk_cell e1 3
  have i4 : w1.cell? ⟨w.heap.size + 1, 4, none⟩ = some (.int .i64 0) := blk_cell e1 4
  have i5 : w1.cell? ⟨w.heap.size + 1, 5, none⟩ = some (.int .i64 0) := blk_cell e1 5
  have hc3 := Lib.hid (y1.cell hc2.out)
  have hm3' := Lib.hid (show w1.cell? ⟨mv, 0, none⟩ = some (.slice (some ⟨A, 0, none⟩) 0 c) from blk_cell hm3 0)
  have x3' := Lib.hid (x2'.out.trans y1)
  clear H y1 e0 e1 hm3 k0 k1 k2 k3 k4 hc2 hb1' hb2' hm2' x2'
  go_wp2_with fail
  have HP := Lib.hid (fun (W : World) => paceNew_any none none none none 0 0 0 0 0 0 0 0 [] [] [] [] 0 0 W rfl rfl rfl rfl (by omega) (by omega) (by omega) (by omega) (Sl.nil _ _ _) (Sl.nil _ _ _) (Sl.nil _ _ _) (Sl.nil _ _ _))
  have HE := Lib.hid (fun (W : World) (hW : Ext w1 W) (pc : Nat) => f_enough b mv pc _ W W (hW.cell hc3.out) (hW.cell hm3'.out) (Ext.refl W))
  clear hc3 hm3'
  go_region_held3 (fun W => Ext w1 W ∧ W.cell? ⟨w.heap.size, 0, none⟩ = some (.bool true) ∧ W.cell? ⟨w.heap.size, 1, none⟩ = some (.int .i64 0) ∧ W.cell? ⟨w.heap.size, 2, none⟩ = some (.int .i64 0) ∧ W.cell? ⟨w.heap.size, 3, none⟩ = some (.slice none 0 0) ∧ W.cell? ⟨w.heap.size, 4, none⟩ = some (.slice (some ⟨b, 0, none⟩) 1 1) ∧
      W.cell? ⟨w.heap.size + 1, 0, none⟩ = some (.slice none 0 0) ∧ W.cell? ⟨w.heap.size + 1, 1, none⟩ = some (.slice none 0 0) ∧ W.cell? ⟨w.heap.size + 1, 2, none⟩ = some (.slice none 0 0) ∧ W.cell? ⟨w.heap.size + 1, 3, none⟩ = some (.slice none 0 0) ∧ W.cell? ⟨w.heap.size + 1, 4, none⟩ = some (.int .i64 0) ∧ W.cell? ⟨w.heap.size + 1, 5, none⟩ = some (.int .i64 0))
    (first | exact ⟨(Ext.refl _).drew, j0, j1, j2, j3, j4, i0, i1, i2, i3, i4, i5⟩ | exact S11_ext hpx (by assumption) | exact S11_ext hfin (by assumption))
    (first
      | (go_at_call 18; refine (HP.out _).mono ?_; rintro e w2 ⟨pc, B1, d1, B2, d2, B3, d3, B4, d4, rfl, hpb, ht1, ht2, ht3, ht4, hpx, hpz⟩)
      | (go_at_call 17; refine (HE.out _ ?_ _).mono ?_; exact And.left (by assumption); rintro e w3 ⟨rfl, hfin⟩))
  have xf : Ext w1 w3 := And.left (by assumption)
  go_wp2_with fail
  go_ret2
  exact ⟨rfl, x3'.out.trans xf⟩

set_option maxRecDepth 100000 in
set_option maxHeartbeats 4000000 in
theorem first_true : FirstSaid := by
  intro w
  go_enter Tryz.func4, Tryz.ntmps4
  go_wp2_with fail
  have x0 := (((Ext.refl w).alloc (.cells #[.int .i64 0] 3)).alloc (.cells #[] 4)).alloc (.cells #[.slice (some ⟨w.heap.size + 1, 0, none⟩) 0 0] 29)
  have hm : (((w.alloc (.cells #[.int .i64 0] 3)).alloc (.cells #[] 4)).alloc (.cells #[.slice (some ⟨w.heap.size + 1, 0, none⟩) 0 0] 29)).heap[w.heap.size + 1 + 1]? = some (.cells #[.slice (some ⟨w.heap.size + 1, 0, none⟩) 0 0] 29 (0, 0)) := by
    have := heap_alloc_new ((w.alloc (.cells #[.int .i64 0] 3)).alloc (.cells #[] 4)) (.cells #[.slice (some ⟨w.heap.size + 1, 0, none⟩) 0 0] 29)
    simpa using this
  have hc : (((w.alloc (.cells #[.int .i64 0] 3)).alloc (.cells #[] 4)).alloc (.cells #[.slice (some ⟨w.heap.size + 1, 0, none⟩) 0 0] 29)).cell? ⟨w.heap.size, 0, none⟩ = some (.int .i64 0) :=
    blk_cell ((((Ext.refl _).alloc _).alloc _).blk (heap_alloc_new w (.cells #[.int .i64 0] 3))) 0
  refine (f_Enough w.heap.size (w.heap.size + 1 + 1) (w.heap.size + 1) 0 _ hc hm).mono ?_
  rintro e w1 ⟨rfl, y1⟩
  have x1' := Lib.hid (x0.trans y1)
  clear x0 hm hc y1
  go_wp2_with fail
  have x2 := (((Ext.refl w1).alloc (.cells #[.bool true] 4)).alloc (.cells #[.bool true] 4)).alloc (.cells #[.slice (some ⟨w1.heap.size, 0, none⟩) 1 1, .slice (some ⟨w1.heap.size + 1, 0, none⟩) 1 1] 29)
  have hm : (((w1.alloc (.cells #[.bool true] 4)).alloc (.cells #[.bool true] 4)).alloc (.cells #[.slice (some ⟨w1.heap.size, 0, none⟩) 1 1, .slice (some ⟨w1.heap.size + 1, 0, none⟩) 1 1] 29)).heap[w1.heap.size + 1 + 1]? = some (.cells #[.slice (some ⟨w1.heap.size, 0, none⟩) 1 1, .slice (some ⟨w1.heap.size + 1, 0, none⟩) 1 1] 29 (0, 0)) := by
    have := heap_alloc_new ((w1.alloc (.cells #[.bool true] 4)).alloc (.cells #[.bool true] 4)) (.cells #[.slice (some ⟨w1.heap.size, 0, none⟩) 1 1, .slice (some ⟨w1.heap.size + 1, 0, none⟩) 1 1] 29)
    simpa using this
  have h0 : (((w1.alloc (.cells #[.bool true] 4)).alloc (.cells #[.bool true] 4)).alloc (.cells #[.slice (some ⟨w1.heap.size, 0, none⟩) 1 1, .slice (some ⟨w1.heap.size + 1, 0, none⟩) 1 1] 29)).heap[w1.heap.size]? = some (.cells #[.bool true] 4 (0, 0)) :=
    (((Ext.refl _).alloc _).alloc _).blk (heap_alloc_new w1 (.cells #[.bool true] 4))
  have h1 : (((w1.alloc (.cells #[.bool true] 4)).alloc (.cells #[.bool true] 4)).alloc (.cells #[.slice (some ⟨w1.heap.size, 0, none⟩) 1 1, .slice (some ⟨w1.heap.size + 1, 0, none⟩) 1 1] 29)).heap[w1.heap.size + 1]? = some (.cells #[.bool true] 4 (0, 0)) :=
    ((Ext.refl _).alloc _).blk (heap_alloc2 w1 (.cells #[.bool true] 4) (.cells #[.bool true] 4))
  have hrow : ∀ (W : World) (g : Nat), W.heap[g]? = some (.cells #[.bool true] 4 (0, 0)) → BRow W 4 (.slice (some ⟨g, 0, none⟩) 1 1) [true] := fun W g hg =>
    ⟨_, _, rfl, fun _ => ⟨_, rfl, by simp [tyAt, hg], fun j u hj => by
      cases j with
      | zero => simp at hj; subst hj; exact blk_cell hg 0
      | succ j => simp at hj⟩⟩
  have hr := ((BRows.nil (((w1.alloc (.cells #[.bool true] 4)).alloc (.cells #[.bool true] 4)).alloc (.cells #[.slice (some ⟨w1.heap.size, 0, none⟩) 1 1, .slice (some ⟨w1.heap.size + 1, 0, none⟩) 1 1] 29)) 4).snoc (hrow _ _ h0)).snoc (hrow _ _ h1)
  have hv : SlT (((w1.alloc (.cells #[.bool true] 4)).alloc (.cells #[.bool true] 4)).alloc (.cells #[.slice (some ⟨w1.heap.size, 0, none⟩) 1 1, .slice (some ⟨w1.heap.size + 1, 0, none⟩) 1 1] 29)) 29 (some ⟨w1.heap.size + 1 + 1, 0, none⟩) (([] ++ [.slice (some ⟨w1.heap.size, 0, none⟩) 1 1]) ++ [.slice (some ⟨w1.heap.size + 1, 0, none⟩) 1 1]) := fun _ =>
    ⟨_, rfl, by simp only [tyAt, hm], fun j u hj => by
      match j, hj with
      | 0, hj => simp at hj; subst hj; exact blk_cell hm 0
      | 1, hj => simp at hj; subst hj; rw [add_head]; exact blk_cell hm 1
      | j + 2, hj => simp at hj⟩
  have HO := Lib.hid (Once_any (some ⟨w1.heap.size + 1 + 1, 0, none⟩) 2 2 _ _ _ (by simp) rfl (by omega) hv hr)
  have x2' := Lib.hid x2
  clear hr hv h0 h1 hm x2 hrow
  refine HO.out.mono ?_
  rintro e w2 ⟨A', c', vs', rfl, _, _, y2⟩
  have x3' := Lib.hid (x1'.out.trans (x2'.out.trans y2))
  have hlen : (onceF [] (([] ++ [[true]]) ++ [[true]])).length = 1 := by decide
  rw [hlen]
  clear HO x1' x2' y2
  go_wp2_with fail
  go_ret
  exact ⟨rfl, x3'.out⟩

end Go.Proofs.YtkdpdlboggggoaaGreatDoor
