/-
  DERIVED. GIVEN WITH THE SEED: THE CARDS: each row of YtkdpdlboggggoaaGreatDoorRows.lean that lists a variable, with what it lists TIED to the program's text (the seventh form; the later family's looks); each row that meets fmt, with fmt's text TOLD by the authors' own Lean function (tested against real Go, not proved from fmt's source: count such statements apart). THE CARD IS WHAT COUNTS. Prove the row's statement (the work); the ties are given (YtkdpdlboggggoaaGreatDoorTie.lean); close each card by the builder's one call (the guide's Derived/Test/ToyasCard.lean, 'card_holds'). Laid BY PROGRAM, IN A SANDBOX (cutbox-door.mjs). By AI agents, Wed Nov 11 2026. No macro, syntax, notation, axiom, sorry.
-/
import Derived.Test.YtkdpdlboggggoaaGreatDoorRows
import GoSem.ClaimSeven
namespace Go.Proofs.YtkdpdlboggggoaaGreatDoor
namespace Rows

/-- THE TIED CARD OF 'skolemlaw25.TrimOnce'. -/
def trimOnceCard : Claim7 := { stood := { row := trimOnceRow, standIns := [], harness := (true, "634f0228a1dd95e8bc583dd5049262bfb1be01ae48d1a8cd51932d0a070c1929"), looks := false }, kinds := [], alts := [], laidByText := true, laidKinds := [.sentinel, .sentinel, .sentinel], laidTests := true, laidLooks := .later }
def TrimOnceCardSaid : Prop := Claim7.holds Tryz.pinned (.plain (OpenSpec.ofChange trimOnceSpec)) trimOnceCard

/-- THE SECOND FORM's CARD OF 'skolemlaw25.TrimOnce'. -/
def trimOnceUptoCard : Claim7 := { stood := { row := trimOnceUptoRow, standIns := [], harness := (true, "634f0228a1dd95e8bc583dd5049262bfb1be01ae48d1a8cd51932d0a070c1929"), looks := false }, kinds := [], alts := [], laidByText := true, laidKinds := [.sentinel, .sentinel, .sentinel], laidTests := true, laidLooks := .later }
def TrimOnceUptoCardSaid : Prop := Claim7.holds Tryz.pinned (.plain (OpenSpec.upto trimOnceSpec)) trimOnceUptoCard
end Rows
end Go.Proofs.YtkdpdlboggggoaaGreatDoor
