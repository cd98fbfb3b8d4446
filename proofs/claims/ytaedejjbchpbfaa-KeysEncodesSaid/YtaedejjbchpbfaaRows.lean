/-
  No cell of these rows narrows 'for every input' (looked for: loops, veiled, ifaces, maps, wideKeys, modest, calm, conditions, laid).
  DERIVED. THE GIVEN ROWS OF THIS SEAT. 6 by the template 'for every input the law returns true; each argument reads behind the call as it read before'; 0 by the template 'total and deterministic' (their statements: YtaedejjbchpbfaaTotals.lean).
  GIVEN WITH THE SEED: the statements are not yours to turn. If you find one false, say at which input.
  Laid BY PROGRAM, IN A SANDBOX (cutbox-rows.mjs): the forced cells as the released guide's own fill.sh prints them over the translation 4b34b192f425d79d… (all of the seat's roots in one cut). By AI agents, Wed Nov 11 2026. No macro, syntax, notation, axiom, sorry.
-/
import Derived.Test.YtaedejjbchpbfaaChecked
import GoSem.Claim
import GoSem.ClaimJoined
import GoSem.ClaimMapViews
import Derived.JoinedTies
import Derived.KernelRfl
namespace Go.Proofs.Ytaedejjbchpbfaa
/- THE CELL 'sum', in the pinned program and in every row, IS THE sha256 OF THE DUMP (.gsa) THAT YtaedejjbchpbfaaProg.lean LOADS. Nothing in Lean hashes anything: it is a label: what it is worth is what the hold of that sum in a sandbox is worth. -/
noncomputable def Try.pinned : Pinned := { name := "ytaedejjbchpbfaa", sum := "4b34b192f425d79db87b3e900bd9c36a1413c8f5d03c713a936e4fbf0dda218c", checked := Try.checked }
namespace Rows
def none {H : Type} : Left H := { results := [], args := [] }

/-- 'lintellaw02.KeysEncodes': WHATEVER THE INPUT: true; the input reads as it did. -/
def keysEncodesSpec : ChangeSpec := { name := "keysEncodes", fn := fun _ => fun
  | [d] => { results := [.lit (.bool true)], args := [d] }
  | _ => none }
def keysEncodesRow : OpenClaim := { program := "ytaedejjbchpbfaa", sum := "4b34b192f425d79db87b3e900bd9c36a1413c8f5d03c713a936e4fbf0dda218c", func := "lintel/lintellaw02.KeysEncodes", spec := "keysEncodes", unfollowed := true, recurses := true, apart := false }
def KeysEncodesSaid : Prop := keysEncodesRow.holds Try.pinned (OpenSpec.ofChange keysEncodesSpec)

/-- ITS FALSE NEIGHBOUR: 'it returns false'. Refute it at one input. -/
def keysEncodesWrong : ChangeSpec := { name := "keysEncodes", fn := fun _ => fun
  | [d] => { results := [.lit (.bool false)], args := [d] }
  | _ => none }
def KeysEncodesWrongFalsely : Prop := keysEncodesRow.holds Try.pinned (OpenSpec.ofChange keysEncodesWrong)

/-- 'lintellaw02.KeysDecodes': WHATEVER THE INPUT: true; the input reads as it did. -/
def keysDecodesSpec : ChangeSpec := { name := "keysDecodes", fn := fun _ => fun
  | [d] => { results := [.lit (.bool true)], args := [d] }
  | _ => none }
def keysDecodesRow : OpenClaim := { program := "ytaedejjbchpbfaa", sum := "4b34b192f425d79db87b3e900bd9c36a1413c8f5d03c713a936e4fbf0dda218c", func := "lintel/lintellaw02.KeysDecodes", spec := "keysDecodes", unfollowed := true, recurses := true, apart := false }
def KeysDecodesSaid : Prop := keysDecodesRow.holds Try.pinned (OpenSpec.ofChange keysDecodesSpec)

/-- ITS FALSE NEIGHBOUR: 'it returns false'. Refute it at one input. -/
def keysDecodesWrong : ChangeSpec := { name := "keysDecodes", fn := fun _ => fun
  | [d] => { results := [.lit (.bool false)], args := [d] }
  | _ => none }
def KeysDecodesWrongFalsely : Prop := keysDecodesRow.holds Try.pinned (OpenSpec.ofChange keysDecodesWrong)

/-- 'lintellaw02.KeysBack': WHATEVER THE INPUT: true; the input reads as it did. -/
def keysBackSpec : ChangeSpec := { name := "keysBack", fn := fun _ => fun
  | [d1, d2] => { results := [.lit (.bool true)], args := [d1, d2] }
  | _ => none }
def keysBackRow : OpenClaim := { program := "ytaedejjbchpbfaa", sum := "4b34b192f425d79db87b3e900bd9c36a1413c8f5d03c713a936e4fbf0dda218c", func := "lintel/lintellaw02.KeysBack", spec := "keysBack", unfollowed := true, recurses := true, apart := false }
def KeysBackSaid : Prop := keysBackRow.holds Try.pinned (OpenSpec.ofChange keysBackSpec)

/-- ITS FALSE NEIGHBOUR: 'it returns false'. Refute it at one input. -/
def keysBackWrong : ChangeSpec := { name := "keysBack", fn := fun _ => fun
  | [d1, d2] => { results := [.lit (.bool false)], args := [d1, d2] }
  | _ => none }
def KeysBackWrongFalsely : Prop := keysBackRow.holds Try.pinned (OpenSpec.ofChange keysBackWrong)

/-- 'lintellaw02.KeysOrder': WHATEVER THE INPUT: true; the input reads as it did. -/
def keysOrderSpec : ChangeSpec := { name := "keysOrder", fn := fun _ => fun
  | [d1, d2] => { results := [.lit (.bool true)], args := [d1, d2] }
  | _ => none }
def keysOrderRow : OpenClaim := { program := "ytaedejjbchpbfaa", sum := "4b34b192f425d79db87b3e900bd9c36a1413c8f5d03c713a936e4fbf0dda218c", func := "lintel/lintellaw02.KeysOrder", spec := "keysOrder", unfollowed := true, recurses := true, apart := false }
def KeysOrderSaid : Prop := keysOrderRow.holds Try.pinned (OpenSpec.ofChange keysOrderSpec)

/-- ITS FALSE NEIGHBOUR: 'it returns false'. Refute it at one input. -/
def keysOrderWrong : ChangeSpec := { name := "keysOrder", fn := fun _ => fun
  | [d1, d2] => { results := [.lit (.bool false)], args := [d1, d2] }
  | _ => none }
def KeysOrderWrongFalsely : Prop := keysOrderRow.holds Try.pinned (OpenSpec.ofChange keysOrderWrong)

/-- 'lintellaw02.KeysApart': WHATEVER THE INPUT: true; the input reads as it did. -/
def keysApartSpec : ChangeSpec := { name := "keysApart", fn := fun _ => fun
  | [d1, d2, d3, d4] => { results := [.lit (.bool true)], args := [d1, d2, d3, d4] }
  | _ => none }
def keysApartRow : OpenClaim := { program := "ytaedejjbchpbfaa", sum := "4b34b192f425d79db87b3e900bd9c36a1413c8f5d03c713a936e4fbf0dda218c", func := "lintel/lintellaw02.KeysApart", spec := "keysApart", unfollowed := true, recurses := true, apart := false }
def KeysApartSaid : Prop := keysApartRow.holds Try.pinned (OpenSpec.ofChange keysApartSpec)

/-- ITS FALSE NEIGHBOUR: 'it returns false'. Refute it at one input. -/
def keysApartWrong : ChangeSpec := { name := "keysApart", fn := fun _ => fun
  | [d1, d2, d3, d4] => { results := [.lit (.bool false)], args := [d1, d2, d3, d4] }
  | _ => none }
def KeysApartWrongFalsely : Prop := keysApartRow.holds Try.pinned (OpenSpec.ofChange keysApartWrong)

/-- 'lintellaw02.KeysUnder': WHATEVER THE INPUT: true; the input reads as it did. -/
def keysUnderSpec : ChangeSpec := { name := "keysUnder", fn := fun _ => fun
  | [d1, d2] => { results := [.lit (.bool true)], args := [d1, d2] }
  | _ => none }
def keysUnderRow : OpenClaim := { program := "ytaedejjbchpbfaa", sum := "4b34b192f425d79db87b3e900bd9c36a1413c8f5d03c713a936e4fbf0dda218c", func := "lintel/lintellaw02.KeysUnder", spec := "keysUnder", unfollowed := true, recurses := true, apart := false }
def KeysUnderSaid : Prop := keysUnderRow.holds Try.pinned (OpenSpec.ofChange keysUnderSpec)

/-- ITS FALSE NEIGHBOUR: 'it returns false'. Refute it at one input. -/
def keysUnderWrong : ChangeSpec := { name := "keysUnder", fn := fun _ => fun
  | [d1, d2] => { results := [.lit (.bool false)], args := [d1, d2] }
  | _ => none }
def KeysUnderWrongFalsely : Prop := keysUnderRow.holds Try.pinned (OpenSpec.ofChange keysUnderWrong)

/- THE SECOND FORM. 'bulk': how many values and letters a reading holds, each counted each time it is reached (what is shared counts as often as it is met; a slice's spare places count too). A statement '..UptoSaid' is the law's where the arguments, and the package variables that the reading takes, are together of bulk at most 1048576: NARROWER than '..Said'. Prove '..Said' where nothing that the law and all that it calls make is longer than what came in: it says more and counts as full. Else prove '..UptoSaid'. A law counts once. -/
mutual
def uptoBulk {H : Type} : DataW H → Nat
  | .lit (.string bytes) => bytes.length + 1
  | .lit _ => 1
  | .nil => 1
  | .ptr d => uptoBulk d + 1
  | .slice elems spare => uptoBulkAll elems + uptoBulkAll spare + 1
  | .agg parts => uptoBulkAll parts + 1
  | .iface _ d => uptoBulk d + 1
  | .map entries => uptoBulkEntries entries + 1
  | .held _ => 1
def uptoBulkAll {H : Type} : List (DataW H) → Nat
  | [] => 0
  | d :: r => uptoBulk d + uptoBulkAll r
def uptoBulkEntries {H : Type} : List (Lit × DataW H) → Nat
  | [] => 0
  | x :: r => uptoBulkEntry x + uptoBulkEntries r
def uptoBulkEntry {H : Type} : Lit × DataW H → Nat
  | (.string bytes, d) => bytes.length + uptoBulk d + 1
  | (_, d) => uptoBulk d + 1
 end
def uptoSmall : (H : Type) → List (DataW H) → Bool := fun _ ds => decide (uptoBulkAll ds ≤ 1048576)
def OpenSpec.upto (s : _root_.Go.ChangeSpec) : _root_.Go.OpenSpec := { _root_.Go.OpenSpec.ofChange s with cond := some uptoSmall }

/-- 'lintellaw02.KeysEncodes', WHERE WHAT IT READS IS OF BULK AT MOST 1048576: true; the input reads as it did. -/
def keysEncodesUptoRow : OpenClaim := { program := "ytaedejjbchpbfaa", sum := "4b34b192f425d79db87b3e900bd9c36a1413c8f5d03c713a936e4fbf0dda218c", func := "lintel/lintellaw02.KeysEncodes", spec := "keysEncodes", unfollowed := true, recurses := true, apart := false, narrowed := true }
def KeysEncodesUptoSaid : Prop := keysEncodesUptoRow.holds Try.pinned (OpenSpec.upto keysEncodesSpec)

/-- 'lintellaw02.KeysDecodes', WHERE WHAT IT READS IS OF BULK AT MOST 1048576: true; the input reads as it did. -/
def keysDecodesUptoRow : OpenClaim := { program := "ytaedejjbchpbfaa", sum := "4b34b192f425d79db87b3e900bd9c36a1413c8f5d03c713a936e4fbf0dda218c", func := "lintel/lintellaw02.KeysDecodes", spec := "keysDecodes", unfollowed := true, recurses := true, apart := false, narrowed := true }
def KeysDecodesUptoSaid : Prop := keysDecodesUptoRow.holds Try.pinned (OpenSpec.upto keysDecodesSpec)

/-- 'lintellaw02.KeysBack', WHERE WHAT IT READS IS OF BULK AT MOST 1048576: true; the input reads as it did. -/
def keysBackUptoRow : OpenClaim := { program := "ytaedejjbchpbfaa", sum := "4b34b192f425d79db87b3e900bd9c36a1413c8f5d03c713a936e4fbf0dda218c", func := "lintel/lintellaw02.KeysBack", spec := "keysBack", unfollowed := true, recurses := true, apart := false, narrowed := true }
def KeysBackUptoSaid : Prop := keysBackUptoRow.holds Try.pinned (OpenSpec.upto keysBackSpec)

/-- 'lintellaw02.KeysOrder', WHERE WHAT IT READS IS OF BULK AT MOST 1048576: true; the input reads as it did. -/
def keysOrderUptoRow : OpenClaim := { program := "ytaedejjbchpbfaa", sum := "4b34b192f425d79db87b3e900bd9c36a1413c8f5d03c713a936e4fbf0dda218c", func := "lintel/lintellaw02.KeysOrder", spec := "keysOrder", unfollowed := true, recurses := true, apart := false, narrowed := true }
def KeysOrderUptoSaid : Prop := keysOrderUptoRow.holds Try.pinned (OpenSpec.upto keysOrderSpec)

/-- 'lintellaw02.KeysApart', WHERE WHAT IT READS IS OF BULK AT MOST 1048576: true; the input reads as it did. -/
def keysApartUptoRow : OpenClaim := { program := "ytaedejjbchpbfaa", sum := "4b34b192f425d79db87b3e900bd9c36a1413c8f5d03c713a936e4fbf0dda218c", func := "lintel/lintellaw02.KeysApart", spec := "keysApart", unfollowed := true, recurses := true, apart := false, narrowed := true }
def KeysApartUptoSaid : Prop := keysApartUptoRow.holds Try.pinned (OpenSpec.upto keysApartSpec)

/-- 'lintellaw02.KeysUnder', WHERE WHAT IT READS IS OF BULK AT MOST 1048576: true; the input reads as it did. -/
def keysUnderUptoRow : OpenClaim := { program := "ytaedejjbchpbfaa", sum := "4b34b192f425d79db87b3e900bd9c36a1413c8f5d03c713a936e4fbf0dda218c", func := "lintel/lintellaw02.KeysUnder", spec := "keysUnder", unfollowed := true, recurses := true, apart := false, narrowed := true }
def KeysUnderUptoSaid : Prop := keysUnderUptoRow.holds Try.pinned (OpenSpec.upto keysUnderSpec)

end Rows
end Go.Proofs.Ytaedejjbchpbfaa
