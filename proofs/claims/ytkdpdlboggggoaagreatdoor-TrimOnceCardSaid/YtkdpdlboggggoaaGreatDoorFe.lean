/- The run of first(): prop.New. -/
import Derived.Test.YtkdpdlboggggoaaGreatDoorFd
namespace Go.Proofs.YtkdpdlboggggoaaGreatDoor
open Go.RowKit

set_option maxRecDepth 100000 in
set_option maxHeartbeats 8000000 in
theorem f_propNew (w : World) : Calls Tryz.prog 46 #[.int .i64 0] w fun e w' => ∃ p, e = .returned (.pointer (some ⟨p, 0, none⟩)) ∧ PropZ w w' p := by
  have hmk : ∀ w : World, (Instr.makeSlice 60 (.int .i64 2) (.int .i64 2)).run Tryz.prog w = .ok (.slice (some ⟨w.heap.size, 0, none⟩) 2 2) (w.alloc (.cells #[.slice none 0 0, .slice none 0 0] 22)) := fun _ => by kernel_rfl
  have e00 := Ext.refl w
  go_enter Tryz.func46, Tryz.ntmps46
  go_upto_region 1 with fail
  go_cut [3] (fun s3 wx => ∃ p, s3 = .pointer (some ⟨p, 0, none⟩) ∧ PropZ w wx p)
  case first =>
    go_region_held3 (fun W => Ext w W)
      (first | exact e00.drew | exact Ext.alloc (by assumption) _ | exact Ext.trans (by assumption) hea)
      ((go_at_call 68; refine (f_assignNew _).mono ?_; rintro e w1 ⟨a, v, rfl, ha, ha2, hea⟩))
    all_goals (go_wp2_with fail; go_meet; have h1 := hea.size; have h2 := ha2; simp at h1 h2; exact ⟨_, rfl, a, v, _, _, _, alloc_at _ _ _ (by simp), Ext.blk (by repeat (first | exact Ext.refl _ | apply Ext.alloc)) ha, by omega, by omega, by assumption⟩)
  case rest =>
    obtain ⟨p, rfl, a, v, lv, rs, wt, hp, ha, hp2, ha2, he⟩ := hcut
    have k0 := blk_cell hp 0
    have k1 := blk_cell hp 1
    have k2 := blk_cell ha 0
    simp only [List.getElem?_toArray, List.getElem?_cons_zero, List.getElem?_cons_succ] at k0 k1 k2
    have hp' := Lib.hid hp
    have ha' := Lib.hid ha
    have he' := Lib.hid he
    clear hp ha he hmk e00
    go_wp2_with fail
    refine (pGrow0 p a _ _ _ _ _ k0 k2 k1).mono ?_
    rintro e w2 ⟨rfl, hq⟩
    have hpz : PropZ w w2 p := by
      obtain ⟨q, rfl⟩ := hq
      exact ⟨a, v, lv, rs, wt, hp'.out, ha'.out, hp2, ha2, he'.out.drewN q⟩
    clear hq k0 k1 k2
    go_wp2_with fail
    go_ret
    exact ⟨p, rfl, hpz⟩

end Go.Proofs.YtkdpdlboggggoaaGreatDoor
