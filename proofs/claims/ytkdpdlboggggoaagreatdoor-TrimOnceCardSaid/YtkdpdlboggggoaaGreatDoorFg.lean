/- The run of first(): heap.New, sat.Paced. -/
import Derived.Test.YtkdpdlboggggoaaGreatDoorFd
namespace Go.Proofs.YtkdpdlboggggoaaGreatDoor
open Go.RowKit

theorem hGrow0 (h : Nat) (sv : Option Addr) (c : Nat) (w : World) (hs : w.cell? ⟨h, 0, none⟩ = some (.slice sv 1 c)) :
    Calls Tryz.prog 70 #[.pointer (some ⟨h, 0, none⟩), .int .i64 0] w fun e w' => e = .returned (.tuple #[]) ∧ ∃ q, w' = w.drewN q := by
  go_enter Tryz.func70, Tryz.ntmps70
  go_wp2_with fail
  refine wp_loop_rounds 1 ?_
  rw [rounds_succ]
  go_wp2_with fail
  go_quiet ((go_at_call 98; exact Calls.quiet_of ((cut0 _).mono fun e w' h => ⟨h.1, 0, h.2.symm⟩)))
  go_wp2_with fail
  go_end0
  exact ⟨rfl, _, rfl⟩

/-- A Heap without variables. -/
def HeapZ (w W : World) (h : Nat) : Prop := ∃ s p, W.heap[h]? = some (.cells #[.slice (some ⟨s, 0, none⟩) 1 1, .slice (some ⟨p, 0, none⟩) 1 1, .slice none 0 0] 122 (0, 0)) ∧ w.heap.size ≤ h ∧ Ext w W

set_option maxRecDepth 100000 in
set_option maxHeartbeats 4000000 in
theorem f_heapNew (w : World) : Calls Tryz.prog 47 #[.int .i64 0] w fun e w' => ∃ h, e = .returned (.pointer (some ⟨h, 0, none⟩)) ∧ HeapZ w w' h := by
  have hmk : ∀ w : World, (Instr.makeSlice 22 (.int .i64 1) (.int .i64 1)).run Tryz.prog w = .ok (.slice (some ⟨w.heap.size, 0, none⟩) 1 1) (w.alloc (.cells #[.int .i64 0] 3)) := fun _ => by kernel_rfl
  have e00 := Ext.refl w
  go_enter Tryz.func47, Tryz.ntmps47
  go_upto_region 1 with fail
  go_cut [3] (fun s3 wx => ∃ h, s3 = .pointer (some ⟨h, 0, none⟩) ∧ HeapZ w wx h)
  case first =>
    go_region_held3 (fun W => Ext w W) (first | exact e00.drew | exact Ext.alloc (by assumption) _) (fail)
    all_goals (go_wp2_with fail; go_meet; exact ⟨_, rfl, _, _, alloc_at _ _ _ (by simp), by omega, by assumption⟩)
  case rest =>
    obtain ⟨h, rfl, s, p, hh, hh2, he⟩ := hcut
    have k0 := blk_cell hh 0
    simp only [List.getElem?_toArray, List.getElem?_cons_zero] at k0
    have hh' := Lib.hid hh
    have he' := Lib.hid he
    clear hh he hmk e00
    go_wp2_with fail
    refine (hGrow0 h _ _ _ k0).mono ?_
    rintro e w2 ⟨rfl, hq⟩
    have hpz : HeapZ w w2 h := by
      obtain ⟨q, rfl⟩ := hq
      exact ⟨s, p, hh'.out, hh2, he'.out.drewN q⟩
    clear hq k0
    go_wp2_with fail
    go_ret
    exact ⟨h, rfl, hpz⟩

end Go.Proofs.YtkdpdlboggggoaaGreatDoor
