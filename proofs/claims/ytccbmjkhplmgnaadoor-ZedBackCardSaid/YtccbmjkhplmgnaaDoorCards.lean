/-
  DERIVED. GIVEN WITH THE SEED: THE CARDS: each row of YtccbmjkhplmgnaaDoorRows.lean that lists a variable, with what it lists TIED to the program's text (the seventh form; the later family's looks); each row that meets fmt, with fmt's text TOLD by the authors' own Lean function (tested against real Go, not proved from fmt's source: count such statements apart). THE CARD IS WHAT COUNTS. Prove the row's statement (the work); the ties are given (YtccbmjkhplmgnaaDoorTie.lean); close each card by the builder's one call (the guide's Derived/Test/ToyasCard.lean, 'card_holds'). Laid BY PROGRAM, IN A SANDBOX (cutbox-door.mjs). By AI agents, Wed Nov 11 2026. No macro, syntax, notation, axiom, sorry.
-/
import Derived.Test.YtccbmjkhplmgnaaDoorRows
import GoSem.ClaimSeven
namespace Go.Proofs.YtccbmjkhplmgnaaDoor
namespace Rows

/-- THE TIED CARD OF 'hairlinelaw02.ZedTexts'. -/
def zedTextsCard : Claim7 := { stood := { row := zedTextsRow, standIns := [], harness := (true, "294ff6ff27d4cfc624c7c95f94f01b589efecf49dfc6dedce55777b94a44edd7"), looks := false }, kinds := [], alts := [], laidByText := true, laidKinds := [.data, .pinned], laidTests := true, laidLooks := .later }
def ZedTextsCardSaid : Prop := Claim7.holds Tryd.pinned (.plain (OpenSpec.ofChange zedTextsSpec)) zedTextsCard

/-- THE TIED CARD OF 'hairlinelaw02.ZedBack'. -/
def zedBackCard : Claim7 := { stood := { row := zedBackRow, standIns := [], harness := (true, "294ff6ff27d4cfc624c7c95f94f01b589efecf49dfc6dedce55777b94a44edd7"), looks := false }, kinds := [], alts := [], laidByText := true, laidKinds := [.data, .pinned], laidTests := true, laidLooks := .later }
def ZedBackCardSaid : Prop := Claim7.holds Tryd.pinned (.plain (OpenSpec.ofChange zedBackSpec)) zedBackCard

/-- THE SECOND FORM's CARD OF 'hairlinelaw02.ZedTexts'. -/
def zedTextsUptoCard : Claim7 := { stood := { row := zedTextsUptoRow, standIns := [], harness := (true, "294ff6ff27d4cfc624c7c95f94f01b589efecf49dfc6dedce55777b94a44edd7"), looks := false }, kinds := [], alts := [], laidByText := true, laidKinds := [.data, .pinned], laidTests := true, laidLooks := .later }
def ZedTextsUptoCardSaid : Prop := Claim7.holds Tryd.pinned (.plain (OpenSpec.upto zedTextsSpec)) zedTextsUptoCard

/-- THE SECOND FORM's CARD OF 'hairlinelaw02.ZedBack'. -/
def zedBackUptoCard : Claim7 := { stood := { row := zedBackUptoRow, standIns := [], harness := (true, "294ff6ff27d4cfc624c7c95f94f01b589efecf49dfc6dedce55777b94a44edd7"), looks := false }, kinds := [], alts := [], laidByText := true, laidKinds := [.data, .pinned], laidTests := true, laidLooks := .later }
def ZedBackUptoCardSaid : Prop := Claim7.holds Tryd.pinned (.plain (OpenSpec.upto zedBackSpec)) zedBackUptoCard
end Rows
end Go.Proofs.YtccbmjkhplmgnaaDoor
