/- The run of first(): lits.Check; the solver without variables. -/
import Derived.Test.YtkdpdlboggggoaaGreatDoorFb
import Derived.Deep.DeepCutAuto
import Derived.Deep.QuietTactic
import Derived.BigQuiet
namespace Go.Proofs.YtkdpdlboggggoaaGreatDoor
open Go.RowKit

theorem indexI_empty (A : Option Addr) (c : Nat) (fv : Value) (w : World) : Calls Tryz.prog 67 #[.slice A 0 c, fv] w fun e w' => e = .returned (.int .i64 (-1)) ∧ w = w' := by
  go_enter Tryz.func67, Tryz.ntmps67
  go_wp2_with fail
  refine wp_loop_rounds 1 ?_
  rw [rounds_succ]
  go_wp2_with fail
  go_ret
  exact ⟨rfl, rfl⟩

theorem containsI_empty (A : Option Addr) (c : Nat) (fv : Value) (w : World) : Calls Tryz.prog 43 #[.slice A 0 c, fv] w fun e w' => e = .returned (.bool false) ∧ w = w' := by
  go_enter Tryz.func43, Tryz.ntmps43
  go_wp2_with (go_at_call 67; refine (indexI_empty A c fv _).mono ?_; rintro e w' ⟨rfl, rfl⟩)
  go_ret
  exact ⟨by simp, rfl⟩

set_option maxRecDepth 100000 in
theorem f_litsCheck (q c : Nat) (A2 : Option Addr) (c2 : Nat) (w : World) (hq : w.cell? ⟨q, 0, none⟩ = some (.slice A2 0 c2)) :
    Calls Tryz.prog 29 #[.agg #[.int .i64 0, .slice (some ⟨q, 0, none⟩) 1 c]] w fun e w' => e = .returned .nilIface ∧ Ext w w' := by
  have hlt := World.block_lt_of_cell? w _ hq
  go_enter Tryz.func29, Tryz.ntmps29
  go_wp2_with fail
  refine wp_loop_rounds 2 ?_
  rw [rounds_succ]
  go_wp2_with fail
  rw [rounds_succ]
  go_wp2_with fail
  refine wp_loop_rounds 2 ?_
  rw [rounds_succ]
  go_wp2_with (go_at_call 43; refine (containsI_empty A2 c2 _ _).mono ?_; rintro e w' ⟨rfl, rfl⟩)
  rw [rounds_succ]
  go_wp2_with fail
  go_ret
  exact ⟨rfl, (Ext.refl _).alloc _⟩

theorem cut0 (w : World) : Calls Tryz.prog 98 #[.int .i64 0] w fun e w' => e = .returned (.int .i64 0) ∧ w = w' := by
  go_enter Tryz.func98, Tryz.ntmps98
  go_wp2
  go_ret
  exact ⟨rfl, rfl⟩

theorem f_assignNew (w : World) : Calls Tryz.prog 68 #[.int .i64 0] w fun e w' => ∃ a v, e = .returned (.pointer (some ⟨a, 0, none⟩)) ∧
    w'.heap[a]? = some (.cells #[.slice (some ⟨v, 0, none⟩) 1 1] 141 (0, 0)) ∧ w.heap.size ≤ a ∧ Ext w w' := by
  have hmk : ∀ w : World, (Instr.makeSlice 139 (.int .i64 1) (.int .i64 1)).run Tryz.prog w = .ok (.slice (some ⟨w.heap.size, 0, none⟩) 1 1) (w.alloc (.cells #[.int .i8 0] 157)) := fun _ => by kernel_rfl
  go_enter Tryz.func68, Tryz.ntmps68
  go_wp2_with (go_at_call 98; refine (cut0 _).mono ?_; rintro e w' ⟨rfl, rfl⟩)
  go_ret
  exact ⟨w.heap.size + 1, w.heap.size, rfl, heap_alloc2 w _ _, by omega, ((Ext.refl _).alloc _).alloc _⟩

theorem alloc_at (W : World) (o : Obj) (k : Nat) (h : W.heap.size = k) : (W.alloc o).heap[k]? = some o := by rw [← h]; exact heap_alloc_new _ _

/-- A Prop without variables and clauses: its struct, and what its fields point to. -/
def PropZ (w W : World) (p : Nat) : Prop := ∃ a v lv rs wt,
    W.heap[p]? = some (.cells #[.pointer (some ⟨a, 0, none⟩), .slice (some ⟨lv, 0, none⟩) 1 1, .slice (some ⟨rs, 0, none⟩) 1 1, .slice none 0 0, .slice none 0 0, .int .i64 0, .slice none 0 0, .slice (some ⟨wt, 0, none⟩) 2 2, .slice none 0 0] 120 (0, 0)) ∧
    W.heap[a]? = some (.cells #[.slice (some ⟨v, 0, none⟩) 1 1] 141 (0, 0)) ∧ w.heap.size ≤ p ∧ w.heap.size ≤ a ∧ Ext w W

theorem aVars1 (a : Nat) (v : Option Addr) (n c : Nat) (w : World) (h : w.cell? ⟨a, 0, none⟩ = some (.slice v n c)) (hn : n ≤ 100000) :
    Calls Tryz.prog 71 #[.pointer (some ⟨a, 0, none⟩)] w fun e w' => e = .returned (.int .i64 ((n : Int) - 1)) ∧ w = w' := by
  go_enter Tryz.func71, Tryz.ntmps71
  go_wp2
  go_ret
  exact ⟨rfl, rfl⟩

theorem aVarsOne (a : Nat) (v : Option Addr) (c : Nat) (w : World) (h : w.cell? ⟨a, 0, none⟩ = some (.slice v 1 c)) :
    Calls Tryz.prog 71 #[.pointer (some ⟨a, 0, none⟩)] w fun e w' => e = .returned (.int .i64 0) ∧ ∃ q, w' = w.drewN q :=
  (aVars1 a v 1 c w h (by omega)).mono fun _ _ ⟨he, hw⟩ => ⟨by rw [he]; rfl, 0, hw.symm⟩

theorem pVars1 (p a : Nat) (v : Option Addr) (n c : Nat) (w : World) (hp : w.cell? ⟨p, 0, none⟩ = some (.pointer (some ⟨a, 0, none⟩))) (h : w.cell? ⟨a, 0, none⟩ = some (.slice v n c)) (hn : n ≤ 100000) :
    Calls Tryz.prog 50 #[.pointer (some ⟨p, 0, none⟩)] w fun e w' => e = .returned (.int .i64 ((n : Int) - 1)) ∧ w = w' := by
  go_enter Tryz.func50, Tryz.ntmps50
  go_wp2_with (go_at_call 71; refine (aVars1 a v n c _ h hn).mono ?_; rintro e w' ⟨rfl, rfl⟩)
  go_ret
  exact ⟨rfl, rfl⟩

theorem aGrow0 (a : Nat) (v : Option Addr) (c : Nat) (w : World) (h : w.cell? ⟨a, 0, none⟩ = some (.slice v 1 c)) :
    Calls Tryz.prog 99 #[.pointer (some ⟨a, 0, none⟩), .int .i64 0] w fun e w' => e = .returned (.tuple #[]) ∧ ∃ q, w' = w.drewN q := by
  go_enter Tryz.func99, Tryz.ntmps99
  go_wp2_with fail
  refine wp_loop_rounds 1 ?_
  rw [rounds_succ]
  go_wp2_with fail
  go_quiet ((go_at_call 98; exact Calls.quiet_of ((cut0 _).mono fun e w' h => ⟨h.1, 0, h.2.symm⟩)))
  go_wp2_with fail
  go_end0
  exact ⟨rfl, _, rfl⟩

theorem pGrow0 (p a : Nat) (v : Option Addr) (c : Nat) (lv : Option Addr) (lc : Nat) (w : World) (hp : w.cell? ⟨p, 0, none⟩ = some (.pointer (some ⟨a, 0, none⟩))) (h : w.cell? ⟨a, 0, none⟩ = some (.slice v 1 c)) (hl : w.cell? ⟨p, 1, none⟩ = some (.slice lv 1 lc)) :
    Calls Tryz.prog 69 #[.pointer (some ⟨p, 0, none⟩), .int .i64 0] w fun e w' => e = .returned (.tuple #[]) ∧ ∃ q, w' = w.drewN q := by
  go_enter Tryz.func69, Tryz.ntmps69
  go_wp2_with fail
  refine (aGrow0 a v c _ h).mono ?_
  rintro e w1 ⟨rfl, hq⟩
  have hp1 : w1.cell? ⟨p, 0, none⟩ = some (.pointer (some ⟨a, 0, none⟩)) := by obtain ⟨q, rfl⟩ := hq; exact hp
  have h1 : w1.cell? ⟨a, 0, none⟩ = some (.slice v 1 c) := by obtain ⟨q, rfl⟩ := hq; exact h
  have hl1 : w1.cell? ⟨p, 1, none⟩ = some (.slice lv 1 lc) := by obtain ⟨q, rfl⟩ := hq; exact hl
  have hq' := Lib.hid hq
  clear hq hp h hl
  go_wp2_with fail
  refine wp_loop_rounds 1 ?_
  rw [rounds_succ]
  go_wp2_with fail
  go_quiet ((go_at_call 71; exact Calls.quiet_of (aVarsOne a v c _ h1)))
  go_wp2_with fail
  go_end0
  obtain ⟨q, rfl⟩ := hq'.out
  exact ⟨rfl, _, World.drewN_drewN _ _ _⟩

end Go.Proofs.YtkdpdlboggggoaaGreatDoor
