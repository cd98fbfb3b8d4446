/-
  No cell of these rows narrows 'for every input' (looked for: loops, veiled, ifaces, maps, wideKeys, modest, calm, conditions, laid).
  DERIVED. THE GIVEN ROWS OF THIS SEAT. 5 by the template 'for every input the law returns true; each argument reads behind the call as it read before'; 0 by the template 'total and deterministic' (their statements: YtkhbmamcbhjafaaTotals.lean).
  GIVEN WITH THE SEED: the statements are not yours to turn. If you find one false, say at which input.
  Laid BY PROGRAM, IN A SANDBOX (cutbox-rows.mjs): the forced cells as the released guide's own fill.sh prints them over the translation d98ce720c84b6bf8… (all of the seat's roots in one cut). By AI agents, Wed Nov 11 2026. No macro, syntax, notation, axiom, sorry.
-/
import Derived.Test.YtkhbmamcbhjafaaChecked
import GoSem.Claim
import GoSem.ClaimJoined
import GoSem.ClaimMapViews
import Derived.JoinedTies
import Derived.KernelRfl
namespace Go.Proofs.Ytkhbmamcbhjafaa
/- THE CELL 'sum', in the pinned program and in every row, IS THE sha256 OF THE DUMP (.gsa) THAT YtkhbmamcbhjafaaProg.lean LOADS. Nothing in Lean hashes anything: it is a label: what it is worth is what the hold of that sum in a sandbox is worth. -/
noncomputable def Try.pinned : Pinned := { name := "ytkhbmamcbhjafaa", sum := "d98ce720c84b6bf8cb0d771f6d8c7f6183c45405a395ba167211d59c71fa0856", checked := Try.checked }
namespace Rows
def none {H : Type} : Left H := { results := [], args := [] }

/-- 'lintellaw20.RowsAbsent': WHATEVER THE INPUT: true; the input reads as it did. -/
def rowsAbsentSpec : ChangeSpec := { name := "rowsAbsent", fn := fun _ => fun
  | [d1, d2] => { results := [.lit (.bool true)], args := [d1, d2] }
  | _ => none }
def rowsAbsentRow : OpenClaim := { program := "ytkhbmamcbhjafaa", sum := "d98ce720c84b6bf8cb0d771f6d8c7f6183c45405a395ba167211d59c71fa0856", func := "lintel/lintellaw20.RowsAbsent", spec := "rowsAbsent", unfollowed := true, recurses := true, apart := false }
def RowsAbsentSaid : Prop := rowsAbsentRow.holds Try.pinned (OpenSpec.ofChange rowsAbsentSpec)

/-- ITS FALSE NEIGHBOUR: 'it returns false'. Refute it at one input. -/
def rowsAbsentWrong : ChangeSpec := { name := "rowsAbsent", fn := fun _ => fun
  | [d1, d2] => { results := [.lit (.bool false)], args := [d1, d2] }
  | _ => none }
def RowsAbsentWrongFalsely : Prop := rowsAbsentRow.holds Try.pinned (OpenSpec.ofChange rowsAbsentWrong)

/-- 'lintellaw20.RowsFill': WHATEVER THE INPUT: true; the input reads as it did. -/
def rowsFillSpec : ChangeSpec := { name := "rowsFill", fn := fun _ => fun
  | [d1, d2] => { results := [.lit (.bool true)], args := [d1, d2] }
  | _ => none }
def rowsFillRow : OpenClaim := { program := "ytkhbmamcbhjafaa", sum := "d98ce720c84b6bf8cb0d771f6d8c7f6183c45405a395ba167211d59c71fa0856", func := "lintel/lintellaw20.RowsFill", spec := "rowsFill", unfollowed := true, recurses := true, apart := false }
def RowsFillSaid : Prop := rowsFillRow.holds Try.pinned (OpenSpec.ofChange rowsFillSpec)

/-- ITS FALSE NEIGHBOUR: 'it returns false'. Refute it at one input. -/
def rowsFillWrong : ChangeSpec := { name := "rowsFill", fn := fun _ => fun
  | [d1, d2] => { results := [.lit (.bool false)], args := [d1, d2] }
  | _ => none }
def RowsFillWrongFalsely : Prop := rowsFillRow.holds Try.pinned (OpenSpec.ofChange rowsFillWrong)

/-- 'lintellaw20.RowsExact': WHATEVER THE INPUT: true; the input reads as it did. -/
def rowsExactSpec : ChangeSpec := { name := "rowsExact", fn := fun _ => fun
  | [d1, d2] => { results := [.lit (.bool true)], args := [d1, d2] }
  | _ => none }
def rowsExactRow : OpenClaim := { program := "ytkhbmamcbhjafaa", sum := "d98ce720c84b6bf8cb0d771f6d8c7f6183c45405a395ba167211d59c71fa0856", func := "lintel/lintellaw20.RowsExact", spec := "rowsExact", unfollowed := true, recurses := true, apart := false }
def RowsExactSaid : Prop := rowsExactRow.holds Try.pinned (OpenSpec.ofChange rowsExactSpec)

/-- ITS FALSE NEIGHBOUR: 'it returns false'. Refute it at one input. -/
def rowsExactWrong : ChangeSpec := { name := "rowsExact", fn := fun _ => fun
  | [d1, d2] => { results := [.lit (.bool false)], args := [d1, d2] }
  | _ => none }
def RowsExactWrongFalsely : Prop := rowsExactRow.holds Try.pinned (OpenSpec.ofChange rowsExactWrong)

/-- 'lintellaw20.RowsApart': WHATEVER THE INPUT: true; the input reads as it did. -/
def rowsApartSpec : ChangeSpec := { name := "rowsApart", fn := fun _ => fun
  | [d1, d2] => { results := [.lit (.bool true)], args := [d1, d2] }
  | _ => none }
def rowsApartRow : OpenClaim := { program := "ytkhbmamcbhjafaa", sum := "d98ce720c84b6bf8cb0d771f6d8c7f6183c45405a395ba167211d59c71fa0856", func := "lintel/lintellaw20.RowsApart", spec := "rowsApart", unfollowed := true, recurses := true, apart := false }
def RowsApartSaid : Prop := rowsApartRow.holds Try.pinned (OpenSpec.ofChange rowsApartSpec)

/-- ITS FALSE NEIGHBOUR: 'it returns false'. Refute it at one input. -/
def rowsApartWrong : ChangeSpec := { name := "rowsApart", fn := fun _ => fun
  | [d1, d2] => { results := [.lit (.bool false)], args := [d1, d2] }
  | _ => none }
def RowsApartWrongFalsely : Prop := rowsApartRow.holds Try.pinned (OpenSpec.ofChange rowsApartWrong)

/-- 'lintellaw20.RowsCells': WHATEVER THE INPUT: true; the input reads as it did. -/
def rowsCellsSpec : ChangeSpec := { name := "rowsCells", fn := fun _ => fun
  | [d1, d2] => { results := [.lit (.bool true)], args := [d1, d2] }
  | _ => none }
def rowsCellsRow : OpenClaim := { program := "ytkhbmamcbhjafaa", sum := "d98ce720c84b6bf8cb0d771f6d8c7f6183c45405a395ba167211d59c71fa0856", func := "lintel/lintellaw20.RowsCells", spec := "rowsCells", unfollowed := true, recurses := true, apart := false }
def RowsCellsSaid : Prop := rowsCellsRow.holds Try.pinned (OpenSpec.ofChange rowsCellsSpec)

/-- ITS FALSE NEIGHBOUR: 'it returns false'. Refute it at one input. -/
def rowsCellsWrong : ChangeSpec := { name := "rowsCells", fn := fun _ => fun
  | [d1, d2] => { results := [.lit (.bool false)], args := [d1, d2] }
  | _ => none }
def RowsCellsWrongFalsely : Prop := rowsCellsRow.holds Try.pinned (OpenSpec.ofChange rowsCellsWrong)

/- THE SECOND FORM. 'bulk': how many values and letters a reading holds, each counted each time it is reached (what is shared counts as often as it is met; a slice's spare places count too). A statement '..UptoSaid' is the law's where the arguments, and the package variables that the reading takes, are together of bulk at most 1048576: NARROWER than '..Said'. Prove '..Said' where nothing that the law and all that it calls make is longer than what came in: it says more and counts as full. Else prove '..UptoSaid'. A law counts once. -/
mutual
def uptoBulk {H : Type} : DataW H → Nat
  | .lit (.string bytes) => bytes.length + 1
  | .lit _ => 1
  | .nil => 1
  | .ptr d => uptoBulk d + 1
  | .slice elems spare => uptoBulkAll elems + uptoBulkAll spare + 1
  | .agg parts => uptoBulkAll parts + 1
  | .iface _ d => uptoBulk d + 1
  | .map entries => uptoBulkEntries entries + 1
  | .held _ => 1
def uptoBulkAll {H : Type} : List (DataW H) → Nat
  | [] => 0
  | d :: r => uptoBulk d + uptoBulkAll r
def uptoBulkEntries {H : Type} : List (Lit × DataW H) → Nat
  | [] => 0
  | x :: r => uptoBulkEntry x + uptoBulkEntries r
def uptoBulkEntry {H : Type} : Lit × DataW H → Nat
  | (.string bytes, d) => bytes.length + uptoBulk d + 1
  | (_, d) => uptoBulk d + 1
 end
def uptoSmall : (H : Type) → List (DataW H) → Bool := fun _ ds => decide (uptoBulkAll ds ≤ 1048576)
def OpenSpec.upto (s : _root_.Go.ChangeSpec) : _root_.Go.OpenSpec := { _root_.Go.OpenSpec.ofChange s with cond := some uptoSmall }

/-- 'lintellaw20.RowsAbsent', WHERE WHAT IT READS IS OF BULK AT MOST 1048576: true; the input reads as it did. -/
def rowsAbsentUptoRow : OpenClaim := { program := "ytkhbmamcbhjafaa", sum := "d98ce720c84b6bf8cb0d771f6d8c7f6183c45405a395ba167211d59c71fa0856", func := "lintel/lintellaw20.RowsAbsent", spec := "rowsAbsent", unfollowed := true, recurses := true, apart := false, narrowed := true }
def RowsAbsentUptoSaid : Prop := rowsAbsentUptoRow.holds Try.pinned (OpenSpec.upto rowsAbsentSpec)

/-- 'lintellaw20.RowsFill', WHERE WHAT IT READS IS OF BULK AT MOST 1048576: true; the input reads as it did. -/
def rowsFillUptoRow : OpenClaim := { program := "ytkhbmamcbhjafaa", sum := "d98ce720c84b6bf8cb0d771f6d8c7f6183c45405a395ba167211d59c71fa0856", func := "lintel/lintellaw20.RowsFill", spec := "rowsFill", unfollowed := true, recurses := true, apart := false, narrowed := true }
def RowsFillUptoSaid : Prop := rowsFillUptoRow.holds Try.pinned (OpenSpec.upto rowsFillSpec)

/-- 'lintellaw20.RowsExact', WHERE WHAT IT READS IS OF BULK AT MOST 1048576: true; the input reads as it did. -/
def rowsExactUptoRow : OpenClaim := { program := "ytkhbmamcbhjafaa", sum := "d98ce720c84b6bf8cb0d771f6d8c7f6183c45405a395ba167211d59c71fa0856", func := "lintel/lintellaw20.RowsExact", spec := "rowsExact", unfollowed := true, recurses := true, apart := false, narrowed := true }
def RowsExactUptoSaid : Prop := rowsExactUptoRow.holds Try.pinned (OpenSpec.upto rowsExactSpec)

/-- 'lintellaw20.RowsApart', WHERE WHAT IT READS IS OF BULK AT MOST 1048576: true; the input reads as it did. -/
def rowsApartUptoRow : OpenClaim := { program := "ytkhbmamcbhjafaa", sum := "d98ce720c84b6bf8cb0d771f6d8c7f6183c45405a395ba167211d59c71fa0856", func := "lintel/lintellaw20.RowsApart", spec := "rowsApart", unfollowed := true, recurses := true, apart := false, narrowed := true }
def RowsApartUptoSaid : Prop := rowsApartUptoRow.holds Try.pinned (OpenSpec.upto rowsApartSpec)

/-- 'lintellaw20.RowsCells', WHERE WHAT IT READS IS OF BULK AT MOST 1048576: true; the input reads as it did. -/
def rowsCellsUptoRow : OpenClaim := { program := "ytkhbmamcbhjafaa", sum := "d98ce720c84b6bf8cb0d771f6d8c7f6183c45405a395ba167211d59c71fa0856", func := "lintel/lintellaw20.RowsCells", spec := "rowsCells", unfollowed := true, recurses := true, apart := false, narrowed := true }
def RowsCellsUptoSaid : Prop := rowsCellsUptoRow.holds Try.pinned (OpenSpec.upto rowsCellsSpec)

end Rows
end Go.Proofs.Ytkhbmamcbhjafaa
