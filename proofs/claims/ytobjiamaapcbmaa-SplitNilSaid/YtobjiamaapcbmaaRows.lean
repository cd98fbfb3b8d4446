/-
  No cell of these rows narrows 'for every input' (looked for: loops, veiled, ifaces, maps, wideKeys, modest, calm, conditions, laid).
  DERIVED. THE GIVEN ROWS OF THIS SEAT. 5 by the template 'for every input the law returns true; each argument reads behind the call as it read before'; 0 by the template 'total and deterministic' (their statements: YtobjiamaapcbmaaTotals.lean).
  GIVEN WITH THE SEED: the statements are not yours to turn. If you find one false, say at which input.
  Laid BY PROGRAM, IN A SANDBOX (cutbox-rows.mjs): the forced cells as the released guide's own fill.sh prints them over the translation e9d1f14b0851d429… (all of the seat's roots in one cut). By AI agents, Wed Nov 11 2026. No macro, syntax, notation, axiom, sorry.
-/
import Derived.Test.YtobjiamaapcbmaaChecked
import GoSem.Claim
import GoSem.ClaimJoined
import GoSem.ClaimMapViews
import Derived.JoinedTies
import Derived.KernelRfl
namespace Go.Proofs.Ytobjiamaapcbmaa
/- THE CELL 'sum', in the pinned program and in every row, IS THE sha256 OF THE DUMP (.gsa) THAT YtobjiamaapcbmaaProg.lean LOADS. Nothing in Lean hashes anything: it is a label: what it is worth is what the hold of that sum in a sandbox is worth. -/
noncomputable def Try.pinned : Pinned := { name := "ytobjiamaapcbmaa", sum := "e9d1f14b0851d4296669492f2be4185013832aea70db9e993eba5aeed4decd77", checked := Try.checked }
namespace Rows
def none {H : Type} : Left H := { results := [], args := [] }

/-- 'lintellaw14.SplitNews': WHATEVER THE INPUT: true; the input reads as it did. -/
def splitNewsSpec : ChangeSpec := { name := "splitNews", fn := fun _ => fun
  | [d] => { results := [.lit (.bool true)], args := [d] }
  | _ => none }
def splitNewsRow : OpenClaim := { program := "ytobjiamaapcbmaa", sum := "e9d1f14b0851d4296669492f2be4185013832aea70db9e993eba5aeed4decd77", func := "lintel/lintellaw14.SplitNews", spec := "splitNews", apart := false }
def SplitNewsSaid : Prop := splitNewsRow.holds Try.pinned (OpenSpec.ofChange splitNewsSpec)

/-- ITS FALSE NEIGHBOUR: 'it returns false'. Refute it at one input. -/
def splitNewsWrong : ChangeSpec := { name := "splitNews", fn := fun _ => fun
  | [d] => { results := [.lit (.bool false)], args := [d] }
  | _ => none }
def SplitNewsWrongFalsely : Prop := splitNewsRow.holds Try.pinned (OpenSpec.ofChange splitNewsWrong)

/-- 'lintellaw14.SplitFinds': WHATEVER THE INPUT: true; the input reads as it did. -/
def splitFindsSpec : ChangeSpec := { name := "splitFinds", fn := fun _ => fun
  | [d1, d2] => { results := [.lit (.bool true)], args := [d1, d2] }
  | _ => none }
def splitFindsRow : OpenClaim := { program := "ytobjiamaapcbmaa", sum := "e9d1f14b0851d4296669492f2be4185013832aea70db9e993eba5aeed4decd77", func := "lintel/lintellaw14.SplitFinds", spec := "splitFinds", apart := false }
def SplitFindsSaid : Prop := splitFindsRow.holds Try.pinned (OpenSpec.ofChange splitFindsSpec)

/-- ITS FALSE NEIGHBOUR: 'it returns false'. Refute it at one input. -/
def splitFindsWrong : ChangeSpec := { name := "splitFinds", fn := fun _ => fun
  | [d1, d2] => { results := [.lit (.bool false)], args := [d1, d2] }
  | _ => none }
def SplitFindsWrongFalsely : Prop := splitFindsRow.holds Try.pinned (OpenSpec.ofChange splitFindsWrong)

/-- 'lintellaw14.SplitParts': WHATEVER THE INPUT: true; the input reads as it did. -/
def splitPartsSpec : ChangeSpec := { name := "splitParts", fn := fun _ => fun
  | [d1, d2] => { results := [.lit (.bool true)], args := [d1, d2] }
  | _ => none }
def splitPartsRow : OpenClaim := { program := "ytobjiamaapcbmaa", sum := "e9d1f14b0851d4296669492f2be4185013832aea70db9e993eba5aeed4decd77", func := "lintel/lintellaw14.SplitParts", spec := "splitParts", apart := false }
def SplitPartsSaid : Prop := splitPartsRow.holds Try.pinned (OpenSpec.ofChange splitPartsSpec)

/-- ITS FALSE NEIGHBOUR: 'it returns false'. Refute it at one input. -/
def splitPartsWrong : ChangeSpec := { name := "splitParts", fn := fun _ => fun
  | [d1, d2] => { results := [.lit (.bool false)], args := [d1, d2] }
  | _ => none }
def SplitPartsWrongFalsely : Prop := splitPartsRow.holds Try.pinned (OpenSpec.ofChange splitPartsWrong)

/-- 'lintellaw14.SplitCovers': WHATEVER THE INPUT: true; the input reads as it did. -/
def splitCoversSpec : ChangeSpec := { name := "splitCovers", fn := fun _ => fun
  | [d1, d2, d3] => { results := [.lit (.bool true)], args := [d1, d2, d3] }
  | _ => none }
def splitCoversRow : OpenClaim := { program := "ytobjiamaapcbmaa", sum := "e9d1f14b0851d4296669492f2be4185013832aea70db9e993eba5aeed4decd77", func := "lintel/lintellaw14.SplitCovers", spec := "splitCovers", apart := false }
def SplitCoversSaid : Prop := splitCoversRow.holds Try.pinned (OpenSpec.ofChange splitCoversSpec)

/-- ITS FALSE NEIGHBOUR: 'it returns false'. Refute it at one input. -/
def splitCoversWrong : ChangeSpec := { name := "splitCovers", fn := fun _ => fun
  | [d1, d2, d3] => { results := [.lit (.bool false)], args := [d1, d2, d3] }
  | _ => none }
def SplitCoversWrongFalsely : Prop := splitCoversRow.holds Try.pinned (OpenSpec.ofChange splitCoversWrong)

/-- 'lintellaw14.SplitNil': WHATEVER THE INPUT: true; the input reads as it did. -/
def splitNilSpec : ChangeSpec := { name := "splitNil", fn := fun _ => fun
  | [d1, d2] => { results := [.lit (.bool true)], args := [d1, d2] }
  | _ => none }
def splitNilRow : OpenClaim := { program := "ytobjiamaapcbmaa", sum := "e9d1f14b0851d4296669492f2be4185013832aea70db9e993eba5aeed4decd77", func := "lintel/lintellaw14.SplitNil", spec := "splitNil", apart := false }
def SplitNilSaid : Prop := splitNilRow.holds Try.pinned (OpenSpec.ofChange splitNilSpec)

/-- ITS FALSE NEIGHBOUR: 'it returns false'. Refute it at one input. -/
def splitNilWrong : ChangeSpec := { name := "splitNil", fn := fun _ => fun
  | [d1, d2] => { results := [.lit (.bool false)], args := [d1, d2] }
  | _ => none }
def SplitNilWrongFalsely : Prop := splitNilRow.holds Try.pinned (OpenSpec.ofChange splitNilWrong)

/- THE SECOND FORM. 'bulk': how many values and letters a reading holds, each counted each time it is reached (what is shared counts as often as it is met; a slice's spare places count too). A statement '..UptoSaid' is the law's where the arguments, and the package variables that the reading takes, are together of bulk at most 1048576: NARROWER than '..Said'. Prove '..Said' where nothing that the law and all that it calls make is longer than what came in: it says more and counts as full. Else prove '..UptoSaid'. A law counts once. -/
mutual
def uptoBulk {H : Type} : DataW H → Nat
  | .lit (.string bytes) => bytes.length + 1
  | .lit _ => 1
  | .nil => 1
  | .ptr d => uptoBulk d + 1
  | .slice elems spare => uptoBulkAll elems + uptoBulkAll spare + 1
  | .agg parts => uptoBulkAll parts + 1
  | .iface _ d => uptoBulk d + 1
  | .map entries => uptoBulkEntries entries + 1
  | .held _ => 1
def uptoBulkAll {H : Type} : List (DataW H) → Nat
  | [] => 0
  | d :: r => uptoBulk d + uptoBulkAll r
def uptoBulkEntries {H : Type} : List (Lit × DataW H) → Nat
  | [] => 0
  | x :: r => uptoBulkEntry x + uptoBulkEntries r
def uptoBulkEntry {H : Type} : Lit × DataW H → Nat
  | (.string bytes, d) => bytes.length + uptoBulk d + 1
  | (_, d) => uptoBulk d + 1
 end
def uptoSmall : (H : Type) → List (DataW H) → Bool := fun _ ds => decide (uptoBulkAll ds ≤ 1048576)
def OpenSpec.upto (s : _root_.Go.ChangeSpec) : _root_.Go.OpenSpec := { _root_.Go.OpenSpec.ofChange s with cond := some uptoSmall }

/-- 'lintellaw14.SplitNews', WHERE WHAT IT READS IS OF BULK AT MOST 1048576: true; the input reads as it did. -/
def splitNewsUptoRow : OpenClaim := { program := "ytobjiamaapcbmaa", sum := "e9d1f14b0851d4296669492f2be4185013832aea70db9e993eba5aeed4decd77", func := "lintel/lintellaw14.SplitNews", spec := "splitNews", apart := false, narrowed := true }
def SplitNewsUptoSaid : Prop := splitNewsUptoRow.holds Try.pinned (OpenSpec.upto splitNewsSpec)

/-- 'lintellaw14.SplitFinds', WHERE WHAT IT READS IS OF BULK AT MOST 1048576: true; the input reads as it did. -/
def splitFindsUptoRow : OpenClaim := { program := "ytobjiamaapcbmaa", sum := "e9d1f14b0851d4296669492f2be4185013832aea70db9e993eba5aeed4decd77", func := "lintel/lintellaw14.SplitFinds", spec := "splitFinds", apart := false, narrowed := true }
def SplitFindsUptoSaid : Prop := splitFindsUptoRow.holds Try.pinned (OpenSpec.upto splitFindsSpec)

/-- 'lintellaw14.SplitParts', WHERE WHAT IT READS IS OF BULK AT MOST 1048576: true; the input reads as it did. -/
def splitPartsUptoRow : OpenClaim := { program := "ytobjiamaapcbmaa", sum := "e9d1f14b0851d4296669492f2be4185013832aea70db9e993eba5aeed4decd77", func := "lintel/lintellaw14.SplitParts", spec := "splitParts", apart := false, narrowed := true }
def SplitPartsUptoSaid : Prop := splitPartsUptoRow.holds Try.pinned (OpenSpec.upto splitPartsSpec)

/-- 'lintellaw14.SplitCovers', WHERE WHAT IT READS IS OF BULK AT MOST 1048576: true; the input reads as it did. -/
def splitCoversUptoRow : OpenClaim := { program := "ytobjiamaapcbmaa", sum := "e9d1f14b0851d4296669492f2be4185013832aea70db9e993eba5aeed4decd77", func := "lintel/lintellaw14.SplitCovers", spec := "splitCovers", apart := false, narrowed := true }
def SplitCoversUptoSaid : Prop := splitCoversUptoRow.holds Try.pinned (OpenSpec.upto splitCoversSpec)

/-- 'lintellaw14.SplitNil', WHERE WHAT IT READS IS OF BULK AT MOST 1048576: true; the input reads as it did. -/
def splitNilUptoRow : OpenClaim := { program := "ytobjiamaapcbmaa", sum := "e9d1f14b0851d4296669492f2be4185013832aea70db9e993eba5aeed4decd77", func := "lintel/lintellaw14.SplitNil", spec := "splitNil", apart := false, narrowed := true }
def SplitNilUptoSaid : Prop := splitNilUptoRow.holds Try.pinned (OpenSpec.upto splitNilSpec)

end Rows
end Go.Proofs.Ytobjiamaapcbmaa
