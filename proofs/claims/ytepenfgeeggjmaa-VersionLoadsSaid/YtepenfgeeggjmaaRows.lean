/-
  No cell of these rows narrows 'for every input' (looked for: loops, veiled, ifaces, maps, wideKeys, modest, calm, conditions, laid).
  DERIVED. THE GIVEN ROWS OF THIS SEAT. 5 by the template 'for every input the law returns true; each argument reads behind the call as it read before'; 0 by the template 'total and deterministic' (their statements: YtepenfgeeggjmaaTotals.lean).
  GIVEN WITH THE SEED: the statements are not yours to turn. If you find one false, say at which input.
  Laid BY PROGRAM, IN A SANDBOX (cutbox-rows.mjs): the forced cells as the released guide's own fill.sh prints them over the translation f7df3a2cde23c199… (all of the seat's roots in one cut). By AI agents, Wed Nov 11 2026. No macro, syntax, notation, axiom, sorry.
-/
import Derived.Test.YtepenfgeeggjmaaChecked
import GoSem.Claim
import GoSem.ClaimJoined
import GoSem.ClaimMapViews
import Derived.JoinedTies
import Derived.KernelRfl
namespace Go.Proofs.Ytepenfgeeggjmaa
/- THE CELL 'sum', in the pinned program and in every row, IS THE sha256 OF THE DUMP (.gsa) THAT YtepenfgeeggjmaaProg.lean LOADS. Nothing in Lean hashes anything: it is a label: what it is worth is what the hold of that sum in a sandbox is worth. -/
noncomputable def Try.pinned : Pinned := { name := "ytepenfgeeggjmaa", sum := "f7df3a2cde23c199f534186f2319bffc0469866135852c8eafd7b81aaa6fc252", checked := Try.checked }
namespace Rows
def none {H : Type} : Left H := { results := [], args := [] }

/-- 'lintellaw12.VersionPast': WHATEVER THE INPUT: true; the input reads as it did. -/
def versionPastSpec : ChangeSpec := { name := "versionPast", fn := fun _ => fun
  | [d1, d2, d3, d4] => { results := [.lit (.bool true)], args := [d1, d2, d3, d4] }
  | _ => none }
def versionPastRow : OpenClaim := { program := "ytepenfgeeggjmaa", sum := "f7df3a2cde23c199f534186f2319bffc0469866135852c8eafd7b81aaa6fc252", func := "lintel/lintellaw12.VersionPast", spec := "versionPast", inPlace := ["internal/bytealg.abigen_runtime_cmpstring", "slices.overlaps[lintel/api.Row]"], unfollowed := true, recurses := true, apart := false }
def VersionPastSaid : Prop := versionPastRow.holds Try.pinned (OpenSpec.ofChange versionPastSpec)

/-- ITS FALSE NEIGHBOUR: 'it returns false'. Refute it at one input. -/
def versionPastWrong : ChangeSpec := { name := "versionPast", fn := fun _ => fun
  | [d1, d2, d3, d4] => { results := [.lit (.bool false)], args := [d1, d2, d3, d4] }
  | _ => none }
def VersionPastWrongFalsely : Prop := versionPastRow.holds Try.pinned (OpenSpec.ofChange versionPastWrong)

/-- 'lintellaw12.VersionParts': WHATEVER THE INPUT: true; the input reads as it did. -/
def versionPartsSpec : ChangeSpec := { name := "versionParts", fn := fun _ => fun
  | [d1, d2, d3, d4, d5] => { results := [.lit (.bool true)], args := [d1, d2, d3, d4, d5] }
  | _ => none }
def versionPartsRow : OpenClaim := { program := "ytepenfgeeggjmaa", sum := "f7df3a2cde23c199f534186f2319bffc0469866135852c8eafd7b81aaa6fc252", func := "lintel/lintellaw12.VersionParts", spec := "versionParts", inPlace := ["internal/bytealg.abigen_runtime_cmpstring", "slices.overlaps[lintel/api.Row]"], unfollowed := true, recurses := true, apart := false }
def VersionPartsSaid : Prop := versionPartsRow.holds Try.pinned (OpenSpec.ofChange versionPartsSpec)

/-- ITS FALSE NEIGHBOUR: 'it returns false'. Refute it at one input. -/
def versionPartsWrong : ChangeSpec := { name := "versionParts", fn := fun _ => fun
  | [d1, d2, d3, d4, d5] => { results := [.lit (.bool false)], args := [d1, d2, d3, d4, d5] }
  | _ => none }
def VersionPartsWrongFalsely : Prop := versionPartsRow.holds Try.pinned (OpenSpec.ofChange versionPartsWrong)

/-- 'lintellaw12.VersionPlays': WHATEVER THE INPUT: true; the input reads as it did. -/
def versionPlaysSpec : ChangeSpec := { name := "versionPlays", fn := fun _ => fun
  | [d] => { results := [.lit (.bool true)], args := [d] }
  | _ => none }
def versionPlaysRow : OpenClaim := { program := "ytepenfgeeggjmaa", sum := "f7df3a2cde23c199f534186f2319bffc0469866135852c8eafd7b81aaa6fc252", func := "lintel/lintellaw12.VersionPlays", spec := "versionPlays", inPlace := ["internal/bytealg.abigen_runtime_cmpstring", "slices.overlaps[lintel/api.Row]"], unfollowed := true, recurses := true, apart := false }
def VersionPlaysSaid : Prop := versionPlaysRow.holds Try.pinned (OpenSpec.ofChange versionPlaysSpec)

/-- ITS FALSE NEIGHBOUR: 'it returns false'. Refute it at one input. -/
def versionPlaysWrong : ChangeSpec := { name := "versionPlays", fn := fun _ => fun
  | [d] => { results := [.lit (.bool false)], args := [d] }
  | _ => none }
def VersionPlaysWrongFalsely : Prop := versionPlaysRow.holds Try.pinned (OpenSpec.ofChange versionPlaysWrong)

/-- 'lintellaw12.VersionNil': WHATEVER THE INPUT: true; the input reads as it did. -/
def versionNilSpec : ChangeSpec := { name := "versionNil", fn := fun _ => fun
  | [d] => { results := [.lit (.bool true)], args := [d] }
  | _ => none }
def versionNilRow : OpenClaim := { program := "ytepenfgeeggjmaa", sum := "f7df3a2cde23c199f534186f2319bffc0469866135852c8eafd7b81aaa6fc252", func := "lintel/lintellaw12.VersionNil", spec := "versionNil", inPlace := ["internal/bytealg.abigen_runtime_cmpstring", "slices.overlaps[lintel/api.Row]"], unfollowed := true, recurses := true, apart := false }
def VersionNilSaid : Prop := versionNilRow.holds Try.pinned (OpenSpec.ofChange versionNilSpec)

/-- ITS FALSE NEIGHBOUR: 'it returns false'. Refute it at one input. -/
def versionNilWrong : ChangeSpec := { name := "versionNil", fn := fun _ => fun
  | [d] => { results := [.lit (.bool false)], args := [d] }
  | _ => none }
def VersionNilWrongFalsely : Prop := versionNilRow.holds Try.pinned (OpenSpec.ofChange versionNilWrong)

/-- 'lintellaw12.VersionLoads': WHATEVER THE INPUT: true; the input reads as it did. -/
def versionLoadsSpec : ChangeSpec := { name := "versionLoads", fn := fun _ => fun
  | [d1, d2] => { results := [.lit (.bool true)], args := [d1, d2] }
  | _ => none }
def versionLoadsRow : OpenClaim := { program := "ytepenfgeeggjmaa", sum := "f7df3a2cde23c199f534186f2319bffc0469866135852c8eafd7b81aaa6fc252", func := "lintel/lintellaw12.VersionLoads", spec := "versionLoads", inPlace := ["internal/bytealg.abigen_runtime_cmpstring", "slices.overlaps[lintel/api.Row]"], unfollowed := true, recurses := true, apart := false }
def VersionLoadsSaid : Prop := versionLoadsRow.holds Try.pinned (OpenSpec.ofChange versionLoadsSpec)

/-- ITS FALSE NEIGHBOUR: 'it returns false'. Refute it at one input. -/
def versionLoadsWrong : ChangeSpec := { name := "versionLoads", fn := fun _ => fun
  | [d1, d2] => { results := [.lit (.bool false)], args := [d1, d2] }
  | _ => none }
def VersionLoadsWrongFalsely : Prop := versionLoadsRow.holds Try.pinned (OpenSpec.ofChange versionLoadsWrong)

/- THE SECOND FORM. 'bulk': how many values and letters a reading holds, each counted each time it is reached (what is shared counts as often as it is met; a slice's spare places count too). A statement '..UptoSaid' is the law's where the arguments, and the package variables that the reading takes, are together of bulk at most 1048576: NARROWER than '..Said'. Prove '..Said' where nothing that the law and all that it calls make is longer than what came in: it says more and counts as full. Else prove '..UptoSaid'. A law counts once. -/
mutual
def uptoBulk {H : Type} : DataW H → Nat
  | .lit (.string bytes) => bytes.length + 1
  | .lit _ => 1
  | .nil => 1
  | .ptr d => uptoBulk d + 1
  | .slice elems spare => uptoBulkAll elems + uptoBulkAll spare + 1
  | .agg parts => uptoBulkAll parts + 1
  | .iface _ d => uptoBulk d + 1
  | .map entries => uptoBulkEntries entries + 1
  | .held _ => 1
def uptoBulkAll {H : Type} : List (DataW H) → Nat
  | [] => 0
  | d :: r => uptoBulk d + uptoBulkAll r
def uptoBulkEntries {H : Type} : List (Lit × DataW H) → Nat
  | [] => 0
  | x :: r => uptoBulkEntry x + uptoBulkEntries r
def uptoBulkEntry {H : Type} : Lit × DataW H → Nat
  | (.string bytes, d) => bytes.length + uptoBulk d + 1
  | (_, d) => uptoBulk d + 1
 end
def uptoSmall : (H : Type) → List (DataW H) → Bool := fun _ ds => decide (uptoBulkAll ds ≤ 1048576)
def OpenSpec.upto (s : _root_.Go.ChangeSpec) : _root_.Go.OpenSpec := { _root_.Go.OpenSpec.ofChange s with cond := some uptoSmall }

/-- 'lintellaw12.VersionPast', WHERE WHAT IT READS IS OF BULK AT MOST 1048576: true; the input reads as it did. -/
def versionPastUptoRow : OpenClaim := { program := "ytepenfgeeggjmaa", sum := "f7df3a2cde23c199f534186f2319bffc0469866135852c8eafd7b81aaa6fc252", func := "lintel/lintellaw12.VersionPast", spec := "versionPast", inPlace := ["internal/bytealg.abigen_runtime_cmpstring", "slices.overlaps[lintel/api.Row]"], unfollowed := true, recurses := true, apart := false, narrowed := true }
def VersionPastUptoSaid : Prop := versionPastUptoRow.holds Try.pinned (OpenSpec.upto versionPastSpec)

/-- 'lintellaw12.VersionParts', WHERE WHAT IT READS IS OF BULK AT MOST 1048576: true; the input reads as it did. -/
def versionPartsUptoRow : OpenClaim := { program := "ytepenfgeeggjmaa", sum := "f7df3a2cde23c199f534186f2319bffc0469866135852c8eafd7b81aaa6fc252", func := "lintel/lintellaw12.VersionParts", spec := "versionParts", inPlace := ["internal/bytealg.abigen_runtime_cmpstring", "slices.overlaps[lintel/api.Row]"], unfollowed := true, recurses := true, apart := false, narrowed := true }
def VersionPartsUptoSaid : Prop := versionPartsUptoRow.holds Try.pinned (OpenSpec.upto versionPartsSpec)

/-- 'lintellaw12.VersionPlays', WHERE WHAT IT READS IS OF BULK AT MOST 1048576: true; the input reads as it did. -/
def versionPlaysUptoRow : OpenClaim := { program := "ytepenfgeeggjmaa", sum := "f7df3a2cde23c199f534186f2319bffc0469866135852c8eafd7b81aaa6fc252", func := "lintel/lintellaw12.VersionPlays", spec := "versionPlays", inPlace := ["internal/bytealg.abigen_runtime_cmpstring", "slices.overlaps[lintel/api.Row]"], unfollowed := true, recurses := true, apart := false, narrowed := true }
def VersionPlaysUptoSaid : Prop := versionPlaysUptoRow.holds Try.pinned (OpenSpec.upto versionPlaysSpec)

/-- 'lintellaw12.VersionNil', WHERE WHAT IT READS IS OF BULK AT MOST 1048576: true; the input reads as it did. -/
def versionNilUptoRow : OpenClaim := { program := "ytepenfgeeggjmaa", sum := "f7df3a2cde23c199f534186f2319bffc0469866135852c8eafd7b81aaa6fc252", func := "lintel/lintellaw12.VersionNil", spec := "versionNil", inPlace := ["internal/bytealg.abigen_runtime_cmpstring", "slices.overlaps[lintel/api.Row]"], unfollowed := true, recurses := true, apart := false, narrowed := true }
def VersionNilUptoSaid : Prop := versionNilUptoRow.holds Try.pinned (OpenSpec.upto versionNilSpec)

/-- 'lintellaw12.VersionLoads', WHERE WHAT IT READS IS OF BULK AT MOST 1048576: true; the input reads as it did. -/
def versionLoadsUptoRow : OpenClaim := { program := "ytepenfgeeggjmaa", sum := "f7df3a2cde23c199f534186f2319bffc0469866135852c8eafd7b81aaa6fc252", func := "lintel/lintellaw12.VersionLoads", spec := "versionLoads", inPlace := ["internal/bytealg.abigen_runtime_cmpstring", "slices.overlaps[lintel/api.Row]"], unfollowed := true, recurses := true, apart := false, narrowed := true }
def VersionLoadsUptoSaid : Prop := versionLoadsUptoRow.holds Try.pinned (OpenSpec.upto versionLoadsSpec)

end Rows
end Go.Proofs.Ytepenfgeeggjmaa
