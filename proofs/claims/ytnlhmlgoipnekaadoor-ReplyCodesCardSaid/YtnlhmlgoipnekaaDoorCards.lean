/-
  DERIVED. GIVEN WITH THE SEED: THE CARDS: each row of YtnlhmlgoipnekaaDoorRows.lean that lists a variable, with what it lists TIED to the program's text (the seventh form; the later family's looks); each row that meets fmt, with fmt's text TOLD by the authors' own Lean function (tested against real Go, not proved from fmt's source: count such statements apart). THE CARD IS WHAT COUNTS. Prove the row's statement (the work); the ties are given (YtnlhmlgoipnekaaDoorTie.lean); close each card by the builder's one call (the guide's Derived/Test/ToyasCard.lean, 'card_holds'). Laid BY PROGRAM, IN A SANDBOX (cutbox-door.mjs). By AI agents, Wed Nov 11 2026. No macro, syntax, notation, axiom, sorry.
-/
import Derived.Test.YtnlhmlgoipnekaaDoorRows
import GoSem.ClaimSeven
namespace Go.Proofs.YtnlhmlgoipnekaaDoor
namespace Rows

/-- THE TIED CARD OF 'quitrentlaw23.OrderExact'. -/
def orderExactCard : Claim7 := { stood := { row := orderExactRow, standIns := [], harness := (true, "2e8e4ca67073f1a49c24d0015a47b79954c26b1688ef841cb62d3199c19bc5f6"), looks := true }, kinds := [], alts := [], laidByText := true, laidKinds := [.handle, .sentinel, .sentinel, .sentinel], laidTests := true, laidLooks := .later }
def OrderExactCardSaid : Prop := Claim7.holds Tryd.pinned (.plain (OpenSpec.ofChange orderExactSpec)) orderExactCard

/-- THE TIED CARD OF 'quitrentlaw23.OrderBack'. -/
def orderBackCard : Claim7 := { stood := { row := orderBackRow, standIns := [], harness := (true, "2e8e4ca67073f1a49c24d0015a47b79954c26b1688ef841cb62d3199c19bc5f6"), looks := true }, kinds := [], alts := [], laidByText := true, laidKinds := [.handle, .sentinel, .sentinel, .sentinel], laidTests := true, laidLooks := .later }
def OrderBackCardSaid : Prop := Claim7.holds Tryd.pinned (.plain (OpenSpec.ofChange orderBackSpec)) orderBackCard

/-- THE TIED CARD OF 'quitrentlaw23.OrderTrims'. -/
def orderTrimsCard : Claim7 := { stood := { row := orderTrimsRow, standIns := [], harness := (true, "2e8e4ca67073f1a49c24d0015a47b79954c26b1688ef841cb62d3199c19bc5f6"), looks := true }, kinds := [], alts := [], laidByText := true, laidKinds := [.handle, .sentinel, .sentinel, .sentinel], laidTests := true, laidLooks := .later }
def OrderTrimsCardSaid : Prop := Claim7.holds Tryd.pinned (.plain (OpenSpec.ofChange orderTrimsSpec)) orderTrimsCard

/-- THE TIED CARD OF 'quitrentlaw24.ReplyCodes'. -/
def replyCodesCard : Claim7 := { stood := { row := replyCodesRow, standIns := [], harness := (true, "2e8e4ca67073f1a49c24d0015a47b79954c26b1688ef841cb62d3199c19bc5f6"), looks := true }, kinds := [], alts := [], laidByText := true, laidKinds := [.handle, .sentinel, .sentinel, .sentinel, .sentinel, .sentinel, .sentinel, .sentinel, .sentinel, .sentinel, .sentinel, .sentinel, .sentinel, .sentinel, .sentinel], laidTests := true, laidLooks := .later }
def ReplyCodesCardSaid : Prop := Claim7.holds Tryd.pinned (.plain (OpenSpec.ofChange replyCodesSpec)) replyCodesCard

/-- THE TIED CARD OF 'quitrentlaw24.ReplyExact'. -/
def replyExactCard : Claim7 := { stood := { row := replyExactRow, standIns := [], harness := (true, "2e8e4ca67073f1a49c24d0015a47b79954c26b1688ef841cb62d3199c19bc5f6"), looks := true }, kinds := [], alts := [], laidByText := true, laidKinds := [.handle, .sentinel, .sentinel, .sentinel, .sentinel, .sentinel, .sentinel, .sentinel, .sentinel, .sentinel, .sentinel, .sentinel, .sentinel, .sentinel, .sentinel], laidTests := true, laidLooks := .later }
def ReplyExactCardSaid : Prop := Claim7.holds Tryd.pinned (.plain (OpenSpec.ofChange replyExactSpec)) replyExactCard

/-- THE TIED CARD OF 'quitrentlaw24.ReplyBack'. -/
def replyBackCard : Claim7 := { stood := { row := replyBackRow, standIns := [], harness := (true, "2e8e4ca67073f1a49c24d0015a47b79954c26b1688ef841cb62d3199c19bc5f6"), looks := true }, kinds := [], alts := [], laidByText := true, laidKinds := [.handle, .sentinel, .sentinel, .sentinel, .sentinel, .sentinel, .sentinel, .sentinel, .sentinel, .sentinel, .sentinel, .sentinel, .sentinel, .sentinel, .sentinel], laidTests := true, laidLooks := .later }
def ReplyBackCardSaid : Prop := Claim7.holds Tryd.pinned (.plain (OpenSpec.ofChange replyBackSpec)) replyBackCard

/-- THE TIED CARD OF 'quitrentlaw39.CauseExact'. -/
def causeExactCard : Claim7 := { stood := { row := causeExactRow, standIns := [], harness := (true, "2e8e4ca67073f1a49c24d0015a47b79954c26b1688ef841cb62d3199c19bc5f6"), looks := true }, kinds := [], alts := [], laidByText := true, laidKinds := [.data, .data, .data, .handle, .sentinel, .sentinel, .sentinel, .sentinel, .sentinel, .sentinel, .sentinel, .sentinel, .sentinel, .sentinel, .sentinel, .sentinel, .sentinel, .sentinel], laidTests := true, laidLooks := .later }
def CauseExactCardSaid : Prop := Claim7.holds Tryd.pinned (.plain (OpenSpec.ofChange causeExactSpec)) causeExactCard

/-- THE SECOND FORM's CARD OF 'quitrentlaw23.OrderExact'. -/
def orderExactUptoCard : Claim7 := { stood := { row := orderExactUptoRow, standIns := [], harness := (true, "2e8e4ca67073f1a49c24d0015a47b79954c26b1688ef841cb62d3199c19bc5f6"), looks := true }, kinds := [], alts := [], laidByText := true, laidKinds := [.handle, .sentinel, .sentinel, .sentinel], laidTests := true, laidLooks := .later }
def OrderExactUptoCardSaid : Prop := Claim7.holds Tryd.pinned (.plain (OpenSpec.upto orderExactSpec)) orderExactUptoCard

/-- THE SECOND FORM's CARD OF 'quitrentlaw23.OrderBack'. -/
def orderBackUptoCard : Claim7 := { stood := { row := orderBackUptoRow, standIns := [], harness := (true, "2e8e4ca67073f1a49c24d0015a47b79954c26b1688ef841cb62d3199c19bc5f6"), looks := true }, kinds := [], alts := [], laidByText := true, laidKinds := [.handle, .sentinel, .sentinel, .sentinel], laidTests := true, laidLooks := .later }
def OrderBackUptoCardSaid : Prop := Claim7.holds Tryd.pinned (.plain (OpenSpec.upto orderBackSpec)) orderBackUptoCard

/-- THE SECOND FORM's CARD OF 'quitrentlaw23.OrderTrims'. -/
def orderTrimsUptoCard : Claim7 := { stood := { row := orderTrimsUptoRow, standIns := [], harness := (true, "2e8e4ca67073f1a49c24d0015a47b79954c26b1688ef841cb62d3199c19bc5f6"), looks := true }, kinds := [], alts := [], laidByText := true, laidKinds := [.handle, .sentinel, .sentinel, .sentinel], laidTests := true, laidLooks := .later }
def OrderTrimsUptoCardSaid : Prop := Claim7.holds Tryd.pinned (.plain (OpenSpec.upto orderTrimsSpec)) orderTrimsUptoCard

/-- THE SECOND FORM's CARD OF 'quitrentlaw24.ReplyCodes'. -/
def replyCodesUptoCard : Claim7 := { stood := { row := replyCodesUptoRow, standIns := [], harness := (true, "2e8e4ca67073f1a49c24d0015a47b79954c26b1688ef841cb62d3199c19bc5f6"), looks := true }, kinds := [], alts := [], laidByText := true, laidKinds := [.handle, .sentinel, .sentinel, .sentinel, .sentinel, .sentinel, .sentinel, .sentinel, .sentinel, .sentinel, .sentinel, .sentinel, .sentinel, .sentinel, .sentinel], laidTests := true, laidLooks := .later }
def ReplyCodesUptoCardSaid : Prop := Claim7.holds Tryd.pinned (.plain (OpenSpec.upto replyCodesSpec)) replyCodesUptoCard

/-- THE SECOND FORM's CARD OF 'quitrentlaw24.ReplyExact'. -/
def replyExactUptoCard : Claim7 := { stood := { row := replyExactUptoRow, standIns := [], harness := (true, "2e8e4ca67073f1a49c24d0015a47b79954c26b1688ef841cb62d3199c19bc5f6"), looks := true }, kinds := [], alts := [], laidByText := true, laidKinds := [.handle, .sentinel, .sentinel, .sentinel, .sentinel, .sentinel, .sentinel, .sentinel, .sentinel, .sentinel, .sentinel, .sentinel, .sentinel, .sentinel, .sentinel], laidTests := true, laidLooks := .later }
def ReplyExactUptoCardSaid : Prop := Claim7.holds Tryd.pinned (.plain (OpenSpec.upto replyExactSpec)) replyExactUptoCard

/-- THE SECOND FORM's CARD OF 'quitrentlaw24.ReplyBack'. -/
def replyBackUptoCard : Claim7 := { stood := { row := replyBackUptoRow, standIns := [], harness := (true, "2e8e4ca67073f1a49c24d0015a47b79954c26b1688ef841cb62d3199c19bc5f6"), looks := true }, kinds := [], alts := [], laidByText := true, laidKinds := [.handle, .sentinel, .sentinel, .sentinel, .sentinel, .sentinel, .sentinel, .sentinel, .sentinel, .sentinel, .sentinel, .sentinel, .sentinel, .sentinel, .sentinel], laidTests := true, laidLooks := .later }
def ReplyBackUptoCardSaid : Prop := Claim7.holds Tryd.pinned (.plain (OpenSpec.upto replyBackSpec)) replyBackUptoCard

/-- THE SECOND FORM's CARD OF 'quitrentlaw39.CauseExact'. -/
def causeExactUptoCard : Claim7 := { stood := { row := causeExactUptoRow, standIns := [], harness := (true, "2e8e4ca67073f1a49c24d0015a47b79954c26b1688ef841cb62d3199c19bc5f6"), looks := true }, kinds := [], alts := [], laidByText := true, laidKinds := [.data, .data, .data, .handle, .sentinel, .sentinel, .sentinel, .sentinel, .sentinel, .sentinel, .sentinel, .sentinel, .sentinel, .sentinel, .sentinel, .sentinel, .sentinel, .sentinel], laidTests := true, laidLooks := .later }
def CauseExactUptoCardSaid : Prop := Claim7.holds Tryd.pinned (.plain (OpenSpec.upto causeExactSpec)) causeExactUptoCard
end Rows
end Go.Proofs.YtnlhmlgoipnekaaDoor
