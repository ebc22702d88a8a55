/- The run of first(): Engine.Add, cannot, Solve. -/
import Derived.Test.YtkdpdlboggggoaaGreatDoorFk
import Derived.Test.YtkdpdlboggggoaaGreatDoorFl
namespace Go.Proofs.YtkdpdlboggggoaaGreatDoor
open Go.RowKit

theorem info_step : (Tryz.prog.info? 127).map (fun i => (i.zero, i.size, i.bytes)) = some (some (.agg #[.bool false, .slice none 0 0]), 2, 32) := by kernel_rfl

def EC (p h pc : Nat) (sv log : Value) : Array Value := #[.pointer (some ⟨p, 0, none⟩), .pointer (some ⟨h, 0, none⟩), .pointer (some ⟨pc, 0, none⟩), sv, .slice none 0 0, log, .int .i64 0, .int .i64 16]

set_option maxRecDepth 100000 in
set_option maxHeartbeats 1000000 in
theorem f_cannot (en p h pc : Nat) (sv : Value) (w : World) (he : w.heap[en]? = some (.cells (EC p h pc sv (.slice none 0 0)) 104 (0, 0))) :
    Calls Tryz.prog 56 #[.pointer (some ⟨en, 0, none⟩), .slice none 0 0] w fun e w' => e = .returned (.agg #[.bool false, .slice none 0 0, .slice none 0 0]) ∧
      (∃ log, w'.heap[en]? = some (.cells (EC p h pc sv log) 104 (0, 0))) ∧ But2 en en w w' := by
  have hmk : ∀ w : World, (Instr.makeSlice 22 (.int .i64 0) (.int .i64 0)).run Tryz.prog w = .ok (.slice (some ⟨w.heap.size, 0, none⟩) 0 0) (w.alloc (.cells #[] 3)) := fun _ => by kernel_rfl
  obtain ⟨i0, hi, hz0, hz1, hz2⟩ := info_parts info_step
  have k5 : w.cell? ⟨en, 5, none⟩ = some (.slice none 0 0) := blk_cell he 5
  have f5 := blk_frozen he 5
  have hlt : en < w.heap.size := (Array.getElem?_eq_some_iff.1 he).1
  have he' := Lib.hid he
  clear he
  go_enter Tryz.func56, Tryz.ntmps56
  go_wp2_with fail
  refine wp_loop_rounds 1 ?_
  rw [rounds_succ]
  have x2 := ((Ext.refl w).alloc (.cells #[.bool false, .slice none 0 0, .slice none 0 0] 71)).alloc (.cells #[] 3)
  have hr2 : ((w.alloc (.cells #[.bool false, .slice none 0 0, .slice none 0 0] 71)).alloc (.cells #[] 3)).heap[w.heap.size]? = some (.cells #[.bool false, .slice none 0 0, .slice none 0 0] 71 (0, 0)) :=
    (Below.heap_alloc _ _ _ (by simp)).trans (heap_alloc_new w _)
  have hs2 : ((w.alloc (.cells #[.bool false, .slice none 0 0, .slice none 0 0] 71)).alloc (.cells #[] 3)).heap.size = w.heap.size + 2 := by simp
  generalize ((w.alloc (.cells #[.bool false, .slice none 0 0, .slice none 0 0] 71)).alloc (.cells #[] 3)) = wa at x2 hr2 hs2 ⊢
  have k5a : wa.cell? ⟨en, 5, none⟩ = some (.slice none 0 0) := x2.cell k5
  have l1 : en < wa.heap.size := by omega
  have x2' := Lib.hid x2
  have hr2' := Lib.hid hr2
  have hs2' := Lib.hid hs2
  clear x2 hr2 k5 f5 hmk hs2
  go_wp2_with (at_builtin; refine app_nilN rfl (.tmp 27) (.tmp 30) 102 127 rfl i0 _ 2 32 Tryz.underlying102 hi hz0 hz1 hz2 rfl (by omega) rfl wa.heap.size [.bool false, .slice (some ⟨w.heap.size + 1, 0, none⟩) 0 0] rfl rfl (heap_alloc_new wa _) (by simp [Value.oneCell']) (by omega) ?_; intro qb qc cl w3 q1 q2 q3 q4; have x3 := ((Ext.refl wa).alloc (.cells #[.bool false, .slice (some ⟨w.heap.size + 1, 0, none⟩) 0 0] 127)).trans q4; have z5 : w3.cell? ⟨en, 5, none⟩ = some (.slice none 0 0) := x3.cell k5a; have zf := blk_frozen (x3.blk (x2'.out.blk he'.out)) 5; have zr0 := blk_cell (x3.blk hr2'.out) 0; have zr1 := blk_cell (x3.blk hr2'.out) 1; have zr2 := blk_cell (x3.blk hr2'.out) 2; have zr := fun i => blk_frozen (x3.blk hr2'.out) i; have x3' := Lib.hid x3; clear x3 q4 q1 q2)
  generalize hW : World.setCell _ ⟨w.heap.size, 2, none⟩ _ = W
  have hb : W.heap[w.heap.size]? = some (.cells #[.bool false, .slice none 0 0, .slice none 0 0] 71 (0, 0)) := by
    rw [← hW]
    exact set_blk (set_blk (set_blk (set_other (x3'.out.blk hr2'.out) 5 _ (by omega)) 0 _) 1 _) 2 _
  have hen : W.heap[en]? = some (.cells (EC p h pc sv (.slice (some ⟨qb, 0, none⟩) 1 qc)) 104 (0, 0)) := by
    rw [← hW]
    exact set_other (set_other (set_other (set_blk (x3'.out.blk (x2'.out.blk he'.out)) 5 _) 0 _ (by omega)) 1 _ (by omega)) 2 _ (by omega)
  have hbut : But2 en en w W := by
    have h0 := ((((But2.of_ext (p := en) (q := w.heap.size) (x2'.out.trans x3'.out)).set ⟨en, 5, none⟩ (.slice (some ⟨qb, 0, none⟩) 1 qc) (Or.inl rfl)).set ⟨w.heap.size, 0, none⟩ (.bool false) (Or.inr rfl)).set ⟨w.heap.size, 1, none⟩ (.slice none 0 0) (Or.inr rfl)).set ⟨w.heap.size, 2, none⟩ (.slice none 0 0) (Or.inr rfl)
    rw [hW] at h0
    exact (But2.refl en en w).new2 h0 (Nat.le_refl _)
  have c0 : W.cell? ⟨w.heap.size, 0, none⟩ = some (.bool false) := blk_cell hb 0
  have c1 : W.cell? ⟨w.heap.size, 1, none⟩ = some (.slice none 0 0) := blk_cell hb 1
  have c2 : W.cell? ⟨w.heap.size, 2, none⟩ = some (.slice none 0 0) := blk_cell hb 2
  exact bodyPost_ret (v := .agg #[.bool false, .slice none 0 0, .slice none 0 0]) (by simp [results, Tryz.results56, go_sem, c0, c1, c2]) rfl ⟨rfl, ⟨_, hen⟩, hbut⟩

set_option maxRecDepth 100000 in
set_option maxHeartbeats 1000000 in
theorem f_engAdd (en p h pc a lv rs wt q c : Nat) (sv : Value) (w : World) (he : w.heap[en]? = some (.cells (EC p h pc sv (.slice none 0 0)) 104 (0, 0)))
    (hp : w.heap[p]? = some (.cells (PC a lv rs wt (.slice none 0 0) (.slice none 0 0)) 120 (0, 0))) (hne : en ≠ p) :
    Calls Tryz.prog 31 #[.pointer (some ⟨en, 0, none⟩), .slice (some ⟨q, 0, none⟩) 0 c] w fun e w' => e = .returned (.bool true) ∧ AddedZ p a lv rs wt w w' ∧
      w'.heap[en]? = some (.cells (EC p h pc sv (.slice none 0 0)) 104 (0, 0)) := by
  have x1 := (Ext.refl w).alloc (.cells #[.pointer (some ⟨en, 0, none⟩)] 67)
  have H := Lib.hid (f_propAdd p a lv rs wt q c _ (x1.blk hp))
  have k0 : (w.alloc (.cells #[.pointer (some ⟨en, 0, none⟩)] 67)).cell? ⟨en, 0, none⟩ = some (.pointer (some ⟨p, 0, none⟩)) := blk_cell (x1.blk he) 0
  have kb : (w.alloc (.cells #[.pointer (some ⟨en, 0, none⟩)] 67)).cell? ⟨w.heap.size, 0, none⟩ = some (.pointer (some ⟨en, 0, none⟩)) := blk_cell (heap_alloc_new w (.cells #[.pointer (some ⟨en, 0, none⟩)] 67)) 0
  have hlt : en < w.heap.size := (Array.getElem?_eq_some_iff.1 he).1
  have hlp : p < w.heap.size := (Array.getElem?_eq_some_iff.1 hp).1
  have he' := Lib.hid he
  clear he hp
  go_enter Tryz.func31, Tryz.ntmps31
  go_wp2_with (go_at_call 43; refine (containsI_empty _ _ _ _).mono ?_; rintro e w' ⟨rfl, rfl⟩)
  refine H.out.mono ?_
  rintro e w2 ⟨rfl, hz⟩
  obtain ⟨cb, cc, B, d, lb, lc, cur, g1, g2, g3, g4, g5, g6, g7, g8, g9, g10⟩ := hz
  have hf : AddedZ p a lv rs wt w w2 := by
    have hs : (w.alloc (.cells #[.pointer (some ⟨en, 0, none⟩)] 67)).heap.size = w.heap.size + 1 := by simp
    exact ⟨cb, cc, B, d, lb, lc, cur, g1, g2, g3, g4, by omega, by omega, g7, g8, g9, (But2.of_ext x1).trans g10⟩
  have hf' := Lib.hid hf
  have hen : w2.heap[en]? = some (.cells (EC p h pc sv (.slice none 0 0)) 104 (0, 0)) := ((g10.block en (by simp; omega) hne hne).trans (Below.heap_alloc _ _ _ hlt)).trans he'.out
  have hen' := Lib.hid hen
  clear g1 g2 g3 g4 g5 g6 g7 g8 g9 g10 hf hen H k0 kb x1
  go_wp2_with fail
  go_ret
  exact ⟨rfl, hf'.out, hen'.out⟩

end Go.Proofs.YtkdpdlboggggoaaGreatDoor
