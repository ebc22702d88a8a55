/-
  DERIVED. GIVEN WITH THE SEED: THE PROGRAM's TIES (one call each: nine closed facts by the kernel) AND EACH ROW's TIE, after the 31st guide's Derived/Test/Toyas{Tie, Card}.lean. No idea stands in it: it is a product of the set-up. Laid BY PROGRAM, IN A SANDBOX (cutbox-door.mjs). By AI agents, Wed Nov 11 2026. No macro, syntax, notation, axiom, sorry.
-/
import Derived.Test.YtkdpdlboggggoaaGreatDoorRows
import Derived.LaidByTextLater
import Derived.SevenTiedAt
import Derived.LaidSub
import Derived.LaidOnce
namespace Go.Proofs.YtkdpdlboggggoaaGreatDoor
open Go
set_option maxRecDepth 100000
theorem seatTie1 : Tryz.prog.laidByTextLater [("skolem/api.ErrLimit", Rows.laid_skolem_api_ErrLimit), ("skolem/api.ErrBudget", Rows.laid_skolem_api_ErrBudget), ("skolem/api.ErrRange", Rows.laid_skolem_api_ErrRange)] [.sentinel, .sentinel, .sentinel] true :=
  Program.laidByTextLater_by_one 66 8 2 (by kernel_rfl) (by kernel_rfl) (by kernel_rfl) (by kernel_rfl) (by kernel_rfl) (by kernel_rfl) (fun _ _ => by kernel_rfl)
theorem noOwnUnsafe : Tryz.pinned.checked.prog.headLifts.contains "ownunsafe" = false := by kernel_rfl
theorem tie : Tryz.prog.laidByTextLater [("skolem/api.ErrLimit", Rows.laid_skolem_api_ErrLimit), ("skolem/api.ErrBudget", Rows.laid_skolem_api_ErrBudget), ("skolem/api.ErrRange", Rows.laid_skolem_api_ErrRange)] [.sentinel, .sentinel, .sentinel] true :=
  Program.laidByTextLater.sub seatTie1 ["skolem/api.ErrLimit", "skolem/api.ErrBudget", "skolem/api.ErrRange"] (by kernel_rfl) (by kernel_rfl)
theorem trimOnce_row_tie : Rows.trimOnceRow.laidByTextAt .later Tryz.pinned [.sentinel, .sentinel, .sentinel] true :=
  OpenClaim.laidByTextAt_later rfl rfl tie noOwnUnsafe
theorem trimOnceUpto_row_tie : Rows.trimOnceUptoRow.laidByTextAt .later Tryz.pinned [.sentinel, .sentinel, .sentinel] true :=
  OpenClaim.laidByTextAt_later rfl rfl tie noOwnUnsafe
end Go.Proofs.YtkdpdlboggggoaaGreatDoor
