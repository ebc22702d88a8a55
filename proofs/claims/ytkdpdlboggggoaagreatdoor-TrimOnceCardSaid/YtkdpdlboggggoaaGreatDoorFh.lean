/- The run of first(): sat.Paced without variables. -/
import Derived.Test.YtkdpdlboggggoaaGreatDoorFe
import Derived.Test.YtkdpdlboggggoaaGreatDoorFg
namespace Go.Proofs.YtkdpdlboggggoaaGreatDoor
open Go.RowKit

theorem pVarsOne (p a : Nat) (v : Option Addr) (c : Nat) (w : World) (hp : w.cell? ⟨p, 0, none⟩ = some (.pointer (some ⟨a, 0, none⟩))) (h : w.cell? ⟨a, 0, none⟩ = some (.slice v 1 c)) :
    Calls Tryz.prog 50 #[.pointer (some ⟨p, 0, none⟩)] w fun e w' => e = .returned (.int .i64 0) ∧ ∃ q, w' = w.drewN q :=
  (pVars1 p a v 1 c w hp h (by omega)).mono fun _ _ ⟨he, hw⟩ => ⟨by rw [he]; rfl, 0, hw.symm⟩

/-- An Engine without variables and clauses; saved as it stands. -/
def EngCells (p h pc : Nat) (sv : Value) : Array Value := #[.pointer (some ⟨p, 0, none⟩), .pointer (some ⟨h, 0, none⟩), .pointer (some ⟨pc, 0, none⟩), sv, .slice none 0 0, .slice none 0 0, .int .i64 0, .int .i64 16]

theorem quiet_ext {w w' : World} (h : ∃ q, w' = w.drewN q) : Ext w w' := by obtain ⟨q, rfl⟩ := h; exact (Ext.refl w).drewN q

set_option maxRecDepth 100000 in
set_option maxHeartbeats 1000000 in
theorem eGrow0 (en p h pc a : Nat) (v lv sv : Option Addr) (c lc sc : Nat) (w : World) (he : w.heap[en]? = some (.cells (EngCells p h pc (.slice none 0 0)) 104 (0, 0)))
    (hp0 : w.cell? ⟨p, 0, none⟩ = some (.pointer (some ⟨a, 0, none⟩))) (hp1 : w.cell? ⟨p, 1, none⟩ = some (.slice lv 1 lc)) (ha : w.cell? ⟨a, 0, none⟩ = some (.slice v 1 c)) (hh : w.cell? ⟨h, 0, none⟩ = some (.slice sv 1 sc))
    (ne1 : en ≠ p) (ne2 : en ≠ a) :
    Calls Tryz.prog 48 #[.pointer (some ⟨en, 0, none⟩), .int .i64 0] w fun e w' => e = .returned (.tuple #[]) ∧ ∃ A c, w'.heap[en]? = some (.cells (EngCells p h pc (.slice A 1 c)) 104 (0, 0)) ∧ w.grownBy w' (some en) := by
  obtain ⟨i0, hi, hz0, hz1, hz2⟩ := info_parts info_int
  have hq := fun (W : World) (hW : ∃ q, W = w.drewN q) => quiet_ext hW
  have e0 : w.cell? ⟨en, 0, none⟩ = some (.pointer (some ⟨p, 0, none⟩)) := blk_cell he 0
  have e1 : w.cell? ⟨en, 1, none⟩ = some (.pointer (some ⟨h, 0, none⟩)) := blk_cell he 1
  have e3 : w.cell? ⟨en, 3, none⟩ = some (.slice none 0 0) := blk_cell he 3
  have he' := Lib.hid he
  have hq' := Lib.hid hq
  clear he hq
  go_enter Tryz.func48, Tryz.ntmps48
  go_wp2_with fail
  refine (pGrow0 p a v c lv lc _ hp0 ha hp1).mono ?_
  rintro e w1 ⟨rfl, hx1⟩
  have x1 := quiet_ext hx1
  have e1' := x1.cell e1
  have hh' := x1.cell hh
  clear hx1
  go_wp2_with fail
  refine (hGrow0 h sv sc _ hh').mono ?_
  rintro e w2 ⟨rfl, hx2⟩
  have x2 := x1.trans (quiet_ext hx2)
  have y0 := x2.cell e0
  have y3 := x2.cell e3
  have yp := x2.cell hp0
  have ya := x2.cell ha
  have yf := blk_frozen (x2.blk he'.out) 3
  have x2' := Lib.hid x2
  clear hx2 x2 x1 e1' hh' e0 e1 e3 hp0 hp1 ha hh
  go_wp2_with fail
  refine wp_loop_rounds 2 ?_
  rw [rounds_succ]
  go_wp2_with fail
  go_quiet ((go_at_call 50; exact Calls.quiet_of (pVarsOne p a v c _ yp ya)))
  go_wp2_with (at_builtin; refine app_one rfl (.tmp 31) (.tmp 32) 22 3 rfl i0 _ 8 Tryz.underlying22 hi hz0 hz1 hz2 rfl w2.heap.size _ 0 [] rfl _ _ rfl (own_nil' _ _ _) rfl rfl (by omega) (by omega) (Nat.le_refl _) ?_; intro A3 c3 w3 hown3 hg3 hat3; have he3 : Ext w2 w3 := Ext.trans (by first | exact ((Ext.refl w2).alloc _).drewN _ | exact ((Ext.refl w2).drewN _).alloc _) (Ext.grown hg3); have z0 := he3.cell y0; have z3 := he3.cell y3; have zp := he3.cell yp; have za := he3.cell ya; have zf := blk_frozen (he3.blk (x2'.out.blk he'.out)) 3; clear hown3 hg3 hat3 y0 y3 yp ya yf)
  have zb := Lib.hid (he3.blk (x2'.out.blk he'.out))
  have he3' := Lib.hid (x2'.out.trans he3)
  clear he3
  rw [rounds_succ]
  go_wp2_with fail
  obtain ⟨w4, hw4⟩ : ∃ w4, w4 = w3.setCell ⟨en, 3, none⟩ (.slice A3 1 c3) := ⟨_, rfl⟩
  rw [← hw4]
  have k0 : w4.cell? ⟨en, 0, none⟩ = some (.pointer (some ⟨p, 0, none⟩)) := by rw [hw4, World.cell?_setCell_other _ _ _ _ (fun e => by injection e with e; omega)]; exact z0
  have k3 : w4.cell? ⟨en, 3, none⟩ = some (.slice A3 1 c3) := by rw [hw4]; exact World.cell?_setCell_same _ _ _ z3
  have kp : w4.cell? ⟨p, 0, none⟩ = some (.pointer (some ⟨a, 0, none⟩)) := by rw [hw4, World.cell?_setCell_other _ _ _ _ (fun e => by injection e with e; exact ne1 e)]; exact zp
  have ka : w4.cell? ⟨a, 0, none⟩ = some (.slice v 1 c) := by rw [hw4, World.cell?_setCell_other _ _ _ _ (fun e => by injection e with e; exact ne2 e)]; exact za
  have kb : w4.heap[en]? = some (.cells (EngCells p h pc (.slice A3 1 c3)) 104 (0, 0)) := by rw [hw4, World.setCell]; simp only [Array.getElem?_modify, if_true, zb.out]; rfl
  have kg : w.grownBy w4 (some en) := by
    have h0 := he3'.out
    rw [hw4]
    exact ⟨h0.os, h0.tape, h0.output, by simpa [World.setCell] using h0.size, fun k hk hne => (Below.heap_setCell w3 _ _ k (fun e => hne (by rw [e]))).trans (h0.block k hk)⟩
  have kb' := Lib.hid kb
  have kg' := Lib.hid kg
  clear hw4 z0 z3 zp za zf kb kg
  go_quiet ((go_at_call 50; exact Calls.quiet_of (pVarsOne p a v c _ kp ka)))
  go_wp2_with fail
  go_end0
  refine ⟨rfl, A3, c3, kb'.out, ?_⟩
  have h0 := kg'.out
  exact ⟨h0.os, h0.tape, h0.output, h0.size, h0.block⟩

/-- All that the run over no variables asks of a fresh Engine. -/
def EngZ (w W : World) (en : Nat) : Prop := ∃ p h pc a v lv rs wt sv c, W.heap[en]? = some (.cells (EngCells p h pc (.slice sv 1 c)) 104 (0, 0)) ∧
    W.heap[p]? = some (.cells #[.pointer (some ⟨a, 0, none⟩), .slice (some ⟨lv, 0, none⟩) 1 1, .slice (some ⟨rs, 0, none⟩) 1 1, .slice none 0 0, .slice none 0 0, .int .i64 0, .slice none 0 0, .slice (some ⟨wt, 0, none⟩) 2 2, .slice none 0 0] 120 (0, 0)) ∧
    W.heap[a]? = some (.cells #[.slice (some ⟨v, 0, none⟩) 1 1] 141 (0, 0)) ∧ w.heap.size ≤ p ∧ w.heap.size ≤ en ∧ w.heap.size ≤ a ∧ en ≠ p ∧ Ext w W

set_option maxRecDepth 100000 in
set_option maxHeartbeats 1000000 in
theorem f_paced (pc : Nat) (w : World) : Calls Tryz.prog 30 #[.int .i64 0, .pointer (some ⟨pc, 0, none⟩)] w fun e w' => ∃ en, e = .returned (.pointer (some ⟨en, 0, none⟩)) ∧ EngZ w w' en := by
  go_enter Tryz.func30, Tryz.ntmps30
  go_wp2_with fail
  refine (f_propNew _).mono ?_
  rintro e w1 ⟨p, rfl, a, v, lv, rs, wt, hp, ha, hp2, ha2, he1⟩
  go_wp2_with fail
  refine (f_heapNew _).mono ?_
  rintro e w2 ⟨h, rfl, hs, hpl, hh, hh2, he2⟩
  have hp' := he2.blk hp
  have ha' := he2.blk ha
  have l1 : p < w1.heap.size := (Array.getElem?_eq_some_iff.1 hp).1
  have l2 : a < w1.heap.size := (Array.getElem?_eq_some_iff.1 ha).1
  have l3 : h < w2.heap.size := (Array.getElem?_eq_some_iff.1 hh).1
  have l4 := he2.size
  have l5 := he1.size
  have hp3 := Lib.hid hp'
  have ha3 := Lib.hid ha'
  have hh3 := Lib.hid hh
  have he3 := Lib.hid (he1.trans he2)
  clear hp ha hh he1 he2 hp' ha'
  go_wp2_with fail
  have x := (Ext.refl w2).alloc (.cells (EngCells p h pc (.slice none 0 0)) 104)
  refine (eGrow0 _ p h pc a _ _ _ _ _ _ _ (heap_alloc_new w2 (.cells (EngCells p h pc (.slice none 0 0)) 104)) (blk_cell (x.blk hp3.out) 0) (blk_cell (x.blk hp3.out) 1) (blk_cell (x.blk ha3.out) 0) (blk_cell (x.blk hh3.out) 0) (by omega) (by omega)).mono ?_
  rintro e w4 ⟨rfl, A, c, hen, hg⟩
  have hf : EngZ w w4 w2.heap.size := by
    have hs0 : (w2.alloc (.cells (EngCells p h pc (.slice none 0 0)) 104)).heap.size = w2.heap.size + 1 := by simp
    refine ⟨p, h, pc, a, v, lv, rs, wt, A, c, hen, ?_, ?_, hp2, by omega, ha2, by omega, ?_⟩
    · rw [hg.block p (by omega) (by simp; omega)]; exact x.blk hp3.out
    · rw [hg.block a (by omega) (by simp; omega)]; exact x.blk ha3.out
    · have h0 := he3.out.trans x
      exact ⟨hg.os.trans h0.os, hg.tape.trans h0.tape, hg.output.trans h0.output, Nat.le_trans h0.size hg.size, fun k hk => (hg.block k (by omega) (by simp; omega)).trans (h0.block k hk)⟩
  have hf' := Lib.hid hf
  clear hf hen hg x
  go_wp2_with fail
  go_ret
  exact ⟨_, rfl, hf'.out⟩

end Go.Proofs.YtkdpdlboggggoaaGreatDoor
