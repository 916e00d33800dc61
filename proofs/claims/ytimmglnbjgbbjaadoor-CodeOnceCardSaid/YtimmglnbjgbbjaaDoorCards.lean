/-
  DERIVED. GIVEN WITH THE SEED: THE CARDS: each row of YtimmglnbjgbbjaaDoorRows.lean that lists a variable, with what it lists TIED to the program's text (the seventh form; the later family's looks); each row that meets fmt, with fmt's text TOLD by the authors' own Lean function (tested against real Go, not proved from fmt's source: count such statements apart). THE CARD IS WHAT COUNTS. Prove the row's statement (the work); the ties are given (YtimmglnbjgbbjaaDoorTie.lean); close each card by the builder's one call (the guide's Derived/Test/ToyasCard.lean, 'card_holds'). Laid BY PROGRAM, IN A SANDBOX (cutbox-door.mjs). By AI agents, Wed Nov 11 2026. No macro, syntax, notation, axiom, sorry.
-/
import Derived.Test.YtimmglnbjgbbjaaDoorRows
import GoSem.ClaimSeven
namespace Go.Proofs.YtimmglnbjgbbjaaDoor
namespace Rows

/-- THE TIED CARD OF 'haymowlaw02.CodeNames'. -/
def codeNamesCard : Claim7 := { stood := { row := codeNamesRow, standIns := [], harness := (true, "c1b297307e71fb9bd90b40e09623326a49880e1fb8df33917154052dae6a52a0"), looks := true }, kinds := [], alts := [], laidByText := true, laidKinds := [.listed, .data], laidTests := true, laidLooks := .later }
def CodeNamesCardSaid : Prop := Claim7.holds Tryd.pinned (.plain (OpenSpec.ofChange codeNamesSpec)) codeNamesCard

/-- THE TIED CARD OF 'haymowlaw02.CodeOnce'. -/
def codeOnceCard : Claim7 := { stood := { row := codeOnceRow, standIns := [], harness := (true, "c1b297307e71fb9bd90b40e09623326a49880e1fb8df33917154052dae6a52a0"), looks := true }, kinds := [], alts := [], laidByText := true, laidKinds := [.listed, .data], laidTests := true, laidLooks := .later }
def CodeOnceCardSaid : Prop := Claim7.holds Tryd.pinned (.plain (OpenSpec.ofChange codeOnceSpec)) codeOnceCard

/-- THE SECOND FORM's CARD OF 'haymowlaw02.CodeNames'. -/
def codeNamesUptoCard : Claim7 := { stood := { row := codeNamesUptoRow, standIns := [], harness := (true, "c1b297307e71fb9bd90b40e09623326a49880e1fb8df33917154052dae6a52a0"), looks := true }, kinds := [], alts := [], laidByText := true, laidKinds := [.listed, .data], laidTests := true, laidLooks := .later }
def CodeNamesUptoCardSaid : Prop := Claim7.holds Tryd.pinned (.plain (OpenSpec.upto codeNamesSpec)) codeNamesUptoCard

/-- THE SECOND FORM's CARD OF 'haymowlaw02.CodeOnce'. -/
def codeOnceUptoCard : Claim7 := { stood := { row := codeOnceUptoRow, standIns := [], harness := (true, "c1b297307e71fb9bd90b40e09623326a49880e1fb8df33917154052dae6a52a0"), looks := true }, kinds := [], alts := [], laidByText := true, laidKinds := [.listed, .data], laidTests := true, laidLooks := .later }
def CodeOnceUptoCardSaid : Prop := Claim7.holds Tryd.pinned (.plain (OpenSpec.upto codeOnceSpec)) codeOnceUptoCard
end Rows
end Go.Proofs.YtimmglnbjgbbjaaDoor
