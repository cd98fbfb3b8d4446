/-
  DERIVED. GIVEN WITH THE SEED: THE CARDS: each row of YtnejbilnhebphaaDoorRows.lean that lists a variable, with what it lists TIED to the program's text (the seventh form; the later family's looks); each row that meets fmt, with fmt's text TOLD by the authors' own Lean function (tested against real Go, not proved from fmt's source: count such statements apart). THE CARD IS WHAT COUNTS. Prove the row's statement (the work); the ties are given (YtnejbilnhebphaaDoorTie.lean); close each card by the builder's one call (the guide's Derived/Test/ToyasCard.lean, 'card_holds'). Laid BY PROGRAM, IN A SANDBOX (cutbox-door.mjs). By AI agents, Wed Nov 11 2026. No macro, syntax, notation, axiom, sorry.
-/
import Derived.Test.YtnejbilnhebphaaDoorRows
import GoSem.ClaimSeven
namespace Go.Proofs.YtnejbilnhebphaaDoor
namespace Rows

/-- THE TIED CARD OF 'lintellaw01.ValueChecks'. -/
def valueChecksCard : Claim7 := { stood := { row := valueChecksRow, standIns := [], harness := (true, "cc1d6675785e88e567f0392c98d17981b52c52edf70a359c8c9e81c6c107ba19"), looks := true }, kinds := [], alts := [], laidByText := true, laidKinds := [.data, .data, .data, .data, .sentinel, .sentinel, .pinned], laidTests := true, laidLooks := .later }
def ValueChecksCardSaid : Prop := Claim7.holds Tryd.pinned (.plain (OpenSpec.ofChange valueChecksSpec)) valueChecksCard

/-- THE TIED CARD OF 'lintellaw01.ValueCompares'. -/
def valueComparesCard : Claim7 := { stood := { row := valueComparesRow, standIns := [], harness := (true, "cc1d6675785e88e567f0392c98d17981b52c52edf70a359c8c9e81c6c107ba19"), looks := true }, kinds := [], alts := [], laidByText := true, laidKinds := [.data, .data, .data, .data, .sentinel, .sentinel, .pinned], laidTests := true, laidLooks := .later }
def ValueComparesCardSaid : Prop := Claim7.holds Tryd.pinned (.plain (OpenSpec.ofChange valueComparesSpec)) valueComparesCard

/-- THE TIED CARD OF 'lintellaw01.ValuePrints'. -/
def valuePrintsCard : Claim7 := { stood := { row := valuePrintsRow, standIns := [], harness := (true, "cc1d6675785e88e567f0392c98d17981b52c52edf70a359c8c9e81c6c107ba19"), looks := true }, kinds := [], alts := [], laidByText := true, laidKinds := [.data, .data, .data, .data, .sentinel, .sentinel, .pinned], laidTests := true, laidLooks := .later }
def ValuePrintsCardSaid : Prop := Claim7.holds Tryd.pinned (.plain (OpenSpec.ofChange valuePrintsSpec)) valuePrintsCard

/-- THE TIED CARD OF 'lintellaw01.ValueReads'. -/
def valueReadsCard : Claim7 := { stood := { row := valueReadsRow, standIns := [], harness := (true, "cc1d6675785e88e567f0392c98d17981b52c52edf70a359c8c9e81c6c107ba19"), looks := true }, kinds := [], alts := [], laidByText := true, laidKinds := [.data, .data, .data, .data, .sentinel, .sentinel, .pinned], laidTests := true, laidLooks := .later }
def ValueReadsCardSaid : Prop := Claim7.holds Tryd.pinned (.plain (OpenSpec.ofChange valueReadsSpec)) valueReadsCard

/-- THE TIED CARD OF 'lintellaw01.ValueBack'. -/
def valueBackCard : Claim7 := { stood := { row := valueBackRow, standIns := [], harness := (true, "cc1d6675785e88e567f0392c98d17981b52c52edf70a359c8c9e81c6c107ba19"), looks := true }, kinds := [], alts := [], laidByText := true, laidKinds := [.data, .data, .data, .data, .sentinel, .sentinel, .pinned], laidTests := true, laidLooks := .later }
def ValueBackCardSaid : Prop := Claim7.holds Tryd.pinned (.plain (OpenSpec.ofChange valueBackSpec)) valueBackCard

/-- THE TIED CARD OF 'lintellaw01.ValueOrder'. -/
def valueOrderCard : Claim7 := { stood := { row := valueOrderRow, standIns := [], harness := (true, "cc1d6675785e88e567f0392c98d17981b52c52edf70a359c8c9e81c6c107ba19"), looks := true }, kinds := [], alts := [], laidByText := true, laidKinds := [.data, .data, .data, .data, .sentinel, .sentinel, .pinned], laidTests := true, laidLooks := .later }
def ValueOrderCardSaid : Prop := Claim7.holds Tryd.pinned (.plain (OpenSpec.ofChange valueOrderSpec)) valueOrderCard

/-- THE SECOND FORM's CARD OF 'lintellaw01.ValueChecks'. -/
def valueChecksUptoCard : Claim7 := { stood := { row := valueChecksUptoRow, standIns := [], harness := (true, "cc1d6675785e88e567f0392c98d17981b52c52edf70a359c8c9e81c6c107ba19"), looks := true }, kinds := [], alts := [], laidByText := true, laidKinds := [.data, .data, .data, .data, .sentinel, .sentinel, .pinned], laidTests := true, laidLooks := .later }
def ValueChecksUptoCardSaid : Prop := Claim7.holds Tryd.pinned (.plain (OpenSpec.upto valueChecksSpec)) valueChecksUptoCard

/-- THE SECOND FORM's CARD OF 'lintellaw01.ValueCompares'. -/
def valueComparesUptoCard : Claim7 := { stood := { row := valueComparesUptoRow, standIns := [], harness := (true, "cc1d6675785e88e567f0392c98d17981b52c52edf70a359c8c9e81c6c107ba19"), looks := true }, kinds := [], alts := [], laidByText := true, laidKinds := [.data, .data, .data, .data, .sentinel, .sentinel, .pinned], laidTests := true, laidLooks := .later }
def ValueComparesUptoCardSaid : Prop := Claim7.holds Tryd.pinned (.plain (OpenSpec.upto valueComparesSpec)) valueComparesUptoCard

/-- THE SECOND FORM's CARD OF 'lintellaw01.ValuePrints'. -/
def valuePrintsUptoCard : Claim7 := { stood := { row := valuePrintsUptoRow, standIns := [], harness := (true, "cc1d6675785e88e567f0392c98d17981b52c52edf70a359c8c9e81c6c107ba19"), looks := true }, kinds := [], alts := [], laidByText := true, laidKinds := [.data, .data, .data, .data, .sentinel, .sentinel, .pinned], laidTests := true, laidLooks := .later }
def ValuePrintsUptoCardSaid : Prop := Claim7.holds Tryd.pinned (.plain (OpenSpec.upto valuePrintsSpec)) valuePrintsUptoCard

/-- THE SECOND FORM's CARD OF 'lintellaw01.ValueReads'. -/
def valueReadsUptoCard : Claim7 := { stood := { row := valueReadsUptoRow, standIns := [], harness := (true, "cc1d6675785e88e567f0392c98d17981b52c52edf70a359c8c9e81c6c107ba19"), looks := true }, kinds := [], alts := [], laidByText := true, laidKinds := [.data, .data, .data, .data, .sentinel, .sentinel, .pinned], laidTests := true, laidLooks := .later }
def ValueReadsUptoCardSaid : Prop := Claim7.holds Tryd.pinned (.plain (OpenSpec.upto valueReadsSpec)) valueReadsUptoCard

/-- THE SECOND FORM's CARD OF 'lintellaw01.ValueBack'. -/
def valueBackUptoCard : Claim7 := { stood := { row := valueBackUptoRow, standIns := [], harness := (true, "cc1d6675785e88e567f0392c98d17981b52c52edf70a359c8c9e81c6c107ba19"), looks := true }, kinds := [], alts := [], laidByText := true, laidKinds := [.data, .data, .data, .data, .sentinel, .sentinel, .pinned], laidTests := true, laidLooks := .later }
def ValueBackUptoCardSaid : Prop := Claim7.holds Tryd.pinned (.plain (OpenSpec.upto valueBackSpec)) valueBackUptoCard

/-- THE SECOND FORM's CARD OF 'lintellaw01.ValueOrder'. -/
def valueOrderUptoCard : Claim7 := { stood := { row := valueOrderUptoRow, standIns := [], harness := (true, "cc1d6675785e88e567f0392c98d17981b52c52edf70a359c8c9e81c6c107ba19"), looks := true }, kinds := [], alts := [], laidByText := true, laidKinds := [.data, .data, .data, .data, .sentinel, .sentinel, .pinned], laidTests := true, laidLooks := .later }
def ValueOrderUptoCardSaid : Prop := Claim7.holds Tryd.pinned (.plain (OpenSpec.upto valueOrderSpec)) valueOrderUptoCard
end Rows
end Go.Proofs.YtnejbilnhebphaaDoor
