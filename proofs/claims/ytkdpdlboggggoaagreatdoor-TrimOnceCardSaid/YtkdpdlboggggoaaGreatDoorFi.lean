/- The run of first(): lits.Norm at no literals. -/
import Derived.Test.YtkdpdlboggggoaaGreatDoorFd
namespace Go.Proofs.YtkdpdlboggggoaaGreatDoor
open Go.RowKit

set_option maxRecDepth 100000 in
theorem len64_0 (w : World) : Calls Tryz.prog 150 #[.int .u64 0] w fun e w' => e = .returned (.int .i64 0) ∧ w = w' := by
  go_enter Tryz.func150, Tryz.ntmps150
  go_wp2_with fail
  go_ret
  exact ⟨by kernel_rfl, rfl⟩

theorem len_0 (w : World) : Calls Tryz.prog 128 #[.int .u64 0] w fun e w' => e = .returned (.int .i64 0) ∧ w = w' := by
  go_enter Tryz.func128, Tryz.ntmps128
  go_wp2_with (go_at_call 150; refine (len64_0 _).mono ?_; rintro e w' ⟨rfl, rfl⟩)
  go_ret
  exact ⟨rfl, rfl⟩

theorem insI0 (v fv : Value) (w : World) : Calls Tryz.prog 141 #[v, .int .i64 0, .int .i64 0, fv] w fun e w' => e = .returned (.tuple #[]) ∧ w = w' := by
  go_enter Tryz.func141, Tryz.ntmps141
  go_wp2_with fail
  refine wp_loop_rounds 1 ?_
  rw [rounds_succ]
  go_wp2_with fail
  go_end0
  exact ⟨rfl, rfl⟩

theorem pdqI0 (v fv : Value) (lim : Value) (w : World) : Calls Tryz.prog 127 #[v, .int .i64 0, .int .i64 0, lim, fv] w fun e w' => e = .returned (.tuple #[]) ∧ w = w' := by
  go_enter Tryz.func127, Tryz.ntmps127
  go_wp2_with fail
  refine wp_loop_rounds 1 ?_
  rw [rounds_succ]
  go_wp2_with (go_at_call 141; refine (insI0 _ _ _).mono ?_; rintro e w' ⟨rfl, rfl⟩)
  exact bodyPost_ret (results_none rfl _ _ _) rfl ⟨rfl, rfl⟩

theorem sortI0 (A : Option Addr) (c : Nat) (fv : Value) (w : World) : Calls Tryz.prog 100 #[.slice A 0 c, fv] w fun e w' => e = .returned (.tuple #[]) ∧ w = w' := by
  go_enter Tryz.func100, Tryz.ntmps100
  go_wp2_with (first | (go_at_call 128; refine (len_0 _).mono ?_; rintro e w' ⟨rfl, rfl⟩) | (go_at_call 127; refine (pdqI0 _ _ _ _).mono ?_; rintro e w' ⟨rfl, rfl⟩))
  go_end0
  exact ⟨rfl, rfl⟩

theorem compI0 (A : Option Addr) (c : Nat) (w : World) : Calls Tryz.prog 103 #[.slice A 0 c] w fun e w' => e = .returned (.slice A 0 c) ∧ w = w' := by
  go_enter Tryz.func103, Tryz.ntmps103
  go_wp2_with fail
  go_ret
  exact ⟨rfl, rfl⟩

theorem clipI0 (A : Option Addr) (c : Nat) (w : World) : Calls Tryz.prog 102 #[.slice A 0 c] w fun e w' => (∃ B d, e = .returned (.slice B 0 d)) ∧ w = w' := by
  go_enter Tryz.func102, Tryz.ntmps102
  go_wp2_with fail
  go_ret
  exact ⟨⟨_, _, rfl⟩, rfl⟩

end Go.Proofs.YtkdpdlboggggoaaGreatDoor
