/-
  No cell of these rows narrows 'for every input' (looked for: loops, veiled, ifaces, maps, wideKeys, modest, calm, conditions, laid).
  DERIVED. THE GIVEN ROWS OF THIS SEAT. 6 by the template 'for every input the law returns true; each argument reads behind the call as it read before'; 0 by the template 'total and deterministic' (their statements: YtiobcknobbimoaaTotals.lean).
  GIVEN WITH THE SEED: the statements are not yours to turn. If you find one false, say at which input.
  Laid BY PROGRAM, IN A SANDBOX (cutbox-rows.mjs): the forced cells as the released guide's own fill.sh prints them over the translation 1744a87c46fdfd9a… (all of the seat's roots in one cut). By AI agents, Wed Nov 11 2026. No macro, syntax, notation, axiom, sorry.
-/
import Derived.Test.YtiobcknobbimoaaChecked
import GoSem.Claim
import GoSem.ClaimJoined
import GoSem.ClaimMapViews
import Derived.JoinedTies
import Derived.KernelRfl
namespace Go.Proofs.Ytiobcknobbimoaa
/- THE CELL 'sum', in the pinned program and in every row, IS THE sha256 OF THE DUMP (.gsa) THAT YtiobcknobbimoaaProg.lean LOADS. Nothing in Lean hashes anything: it is a label: what it is worth is what the hold of that sum in a sandbox is worth. -/
noncomputable def Try.pinned : Pinned := { name := "ytiobcknobbimoaa", sum := "1744a87c46fdfd9a7eec461443f447bfc48e3cda7c50cbbbb301ca5351c08dcd", checked := Try.checked }
namespace Rows
def none {H : Type} : Left H := { results := [], args := [] }

/-- 'lintellaw04.AgendaPlays': WHATEVER THE INPUT: true; the input reads as it did. -/
def agendaPlaysSpec : ChangeSpec := { name := "agendaPlays", fn := fun _ => fun
  | [d] => { results := [.lit (.bool true)], args := [d] }
  | _ => none }
def agendaPlaysRow : OpenClaim := { program := "ytiobcknobbimoaa", sum := "1744a87c46fdfd9a7eec461443f447bfc48e3cda7c50cbbbb301ca5351c08dcd", func := "lintel/lintellaw04.AgendaPlays", spec := "agendaPlays", unfollowed := true, recurses := true, apart := false }
def AgendaPlaysSaid : Prop := agendaPlaysRow.holds Try.pinned (OpenSpec.ofChange agendaPlaysSpec)

/-- ITS FALSE NEIGHBOUR: 'it returns false'. Refute it at one input. -/
def agendaPlaysWrong : ChangeSpec := { name := "agendaPlays", fn := fun _ => fun
  | [d] => { results := [.lit (.bool false)], args := [d] }
  | _ => none }
def AgendaPlaysWrongFalsely : Prop := agendaPlaysRow.holds Try.pinned (OpenSpec.ofChange agendaPlaysWrong)

/-- 'lintellaw04.AgendaRises': WHATEVER THE INPUT: true; the input reads as it did. -/
def agendaRisesSpec : ChangeSpec := { name := "agendaRises", fn := fun _ => fun
  | [d] => { results := [.lit (.bool true)], args := [d] }
  | _ => none }
def agendaRisesRow : OpenClaim := { program := "ytiobcknobbimoaa", sum := "1744a87c46fdfd9a7eec461443f447bfc48e3cda7c50cbbbb301ca5351c08dcd", func := "lintel/lintellaw04.AgendaRises", spec := "agendaRises", unfollowed := true, recurses := true, apart := false }
def AgendaRisesSaid : Prop := agendaRisesRow.holds Try.pinned (OpenSpec.ofChange agendaRisesSpec)

/-- ITS FALSE NEIGHBOUR: 'it returns false'. Refute it at one input. -/
def agendaRisesWrong : ChangeSpec := { name := "agendaRises", fn := fun _ => fun
  | [d] => { results := [.lit (.bool false)], args := [d] }
  | _ => none }
def AgendaRisesWrongFalsely : Prop := agendaRisesRow.holds Try.pinned (OpenSpec.ofChange agendaRisesWrong)

/-- 'lintellaw04.AgendaLast': WHATEVER THE INPUT: true; the input reads as it did. -/
def agendaLastSpec : ChangeSpec := { name := "agendaLast", fn := fun _ => fun
  | [d1, d2, d3, d4] => { results := [.lit (.bool true)], args := [d1, d2, d3, d4] }
  | _ => none }
def agendaLastRow : OpenClaim := { program := "ytiobcknobbimoaa", sum := "1744a87c46fdfd9a7eec461443f447bfc48e3cda7c50cbbbb301ca5351c08dcd", func := "lintel/lintellaw04.AgendaLast", spec := "agendaLast", unfollowed := true, recurses := true, apart := false }
def AgendaLastSaid : Prop := agendaLastRow.holds Try.pinned (OpenSpec.ofChange agendaLastSpec)

/-- ITS FALSE NEIGHBOUR: 'it returns false'. Refute it at one input. -/
def agendaLastWrong : ChangeSpec := { name := "agendaLast", fn := fun _ => fun
  | [d1, d2, d3, d4] => { results := [.lit (.bool false)], args := [d1, d2, d3, d4] }
  | _ => none }
def AgendaLastWrongFalsely : Prop := agendaLastRow.holds Try.pinned (OpenSpec.ofChange agendaLastWrong)

/-- 'lintellaw04.AgendaTies': WHATEVER THE INPUT: true; the input reads as it did. -/
def agendaTiesSpec : ChangeSpec := { name := "agendaTies", fn := fun _ => fun
  | [d1, d2] => { results := [.lit (.bool true)], args := [d1, d2] }
  | _ => none }
def agendaTiesRow : OpenClaim := { program := "ytiobcknobbimoaa", sum := "1744a87c46fdfd9a7eec461443f447bfc48e3cda7c50cbbbb301ca5351c08dcd", func := "lintel/lintellaw04.AgendaTies", spec := "agendaTies", unfollowed := true, recurses := true, apart := false }
def AgendaTiesSaid : Prop := agendaTiesRow.holds Try.pinned (OpenSpec.ofChange agendaTiesSpec)

/-- ITS FALSE NEIGHBOUR: 'it returns false'. Refute it at one input. -/
def agendaTiesWrong : ChangeSpec := { name := "agendaTies", fn := fun _ => fun
  | [d1, d2] => { results := [.lit (.bool false)], args := [d1, d2] }
  | _ => none }
def AgendaTiesWrongFalsely : Prop := agendaTiesRow.holds Try.pinned (OpenSpec.ofChange agendaTiesWrong)

/-- 'lintellaw04.AgendaSplits': WHATEVER THE INPUT: true; the input reads as it did. -/
def agendaSplitsSpec : ChangeSpec := { name := "agendaSplits", fn := fun _ => fun
  | [d1, d2, d3] => { results := [.lit (.bool true)], args := [d1, d2, d3] }
  | _ => none }
def agendaSplitsRow : OpenClaim := { program := "ytiobcknobbimoaa", sum := "1744a87c46fdfd9a7eec461443f447bfc48e3cda7c50cbbbb301ca5351c08dcd", func := "lintel/lintellaw04.AgendaSplits", spec := "agendaSplits", unfollowed := true, recurses := true, apart := false }
def AgendaSplitsSaid : Prop := agendaSplitsRow.holds Try.pinned (OpenSpec.ofChange agendaSplitsSpec)

/-- ITS FALSE NEIGHBOUR: 'it returns false'. Refute it at one input. -/
def agendaSplitsWrong : ChangeSpec := { name := "agendaSplits", fn := fun _ => fun
  | [d1, d2, d3] => { results := [.lit (.bool false)], args := [d1, d2, d3] }
  | _ => none }
def AgendaSplitsWrongFalsely : Prop := agendaSplitsRow.holds Try.pinned (OpenSpec.ofChange agendaSplitsWrong)

/-- 'lintellaw04.AgendaNil': WHATEVER THE INPUT: true; the input reads as it did. -/
def agendaNilSpec : ChangeSpec := { name := "agendaNil", fn := fun _ => fun
  | [d1, d2] => { results := [.lit (.bool true)], args := [d1, d2] }
  | _ => none }
def agendaNilRow : OpenClaim := { program := "ytiobcknobbimoaa", sum := "1744a87c46fdfd9a7eec461443f447bfc48e3cda7c50cbbbb301ca5351c08dcd", func := "lintel/lintellaw04.AgendaNil", spec := "agendaNil", unfollowed := true, recurses := true, apart := false }
def AgendaNilSaid : Prop := agendaNilRow.holds Try.pinned (OpenSpec.ofChange agendaNilSpec)

/-- ITS FALSE NEIGHBOUR: 'it returns false'. Refute it at one input. -/
def agendaNilWrong : ChangeSpec := { name := "agendaNil", fn := fun _ => fun
  | [d1, d2] => { results := [.lit (.bool false)], args := [d1, d2] }
  | _ => none }
def AgendaNilWrongFalsely : Prop := agendaNilRow.holds Try.pinned (OpenSpec.ofChange agendaNilWrong)

/- THE SECOND FORM. 'bulk': how many values and letters a reading holds, each counted each time it is reached (what is shared counts as often as it is met; a slice's spare places count too). A statement '..UptoSaid' is the law's where the arguments, and the package variables that the reading takes, are together of bulk at most 1048576: NARROWER than '..Said'. Prove '..Said' where nothing that the law and all that it calls make is longer than what came in: it says more and counts as full. Else prove '..UptoSaid'. A law counts once. -/
mutual
def uptoBulk {H : Type} : DataW H → Nat
  | .lit (.string bytes) => bytes.length + 1
  | .lit _ => 1
  | .nil => 1
  | .ptr d => uptoBulk d + 1
  | .slice elems spare => uptoBulkAll elems + uptoBulkAll spare + 1
  | .agg parts => uptoBulkAll parts + 1
  | .iface _ d => uptoBulk d + 1
  | .map entries => uptoBulkEntries entries + 1
  | .held _ => 1
def uptoBulkAll {H : Type} : List (DataW H) → Nat
  | [] => 0
  | d :: r => uptoBulk d + uptoBulkAll r
def uptoBulkEntries {H : Type} : List (Lit × DataW H) → Nat
  | [] => 0
  | x :: r => uptoBulkEntry x + uptoBulkEntries r
def uptoBulkEntry {H : Type} : Lit × DataW H → Nat
  | (.string bytes, d) => bytes.length + uptoBulk d + 1
  | (_, d) => uptoBulk d + 1
 end
def uptoSmall : (H : Type) → List (DataW H) → Bool := fun _ ds => decide (uptoBulkAll ds ≤ 1048576)
def OpenSpec.upto (s : _root_.Go.ChangeSpec) : _root_.Go.OpenSpec := { _root_.Go.OpenSpec.ofChange s with cond := some uptoSmall }

/-- 'lintellaw04.AgendaPlays', WHERE WHAT IT READS IS OF BULK AT MOST 1048576: true; the input reads as it did. -/
def agendaPlaysUptoRow : OpenClaim := { program := "ytiobcknobbimoaa", sum := "1744a87c46fdfd9a7eec461443f447bfc48e3cda7c50cbbbb301ca5351c08dcd", func := "lintel/lintellaw04.AgendaPlays", spec := "agendaPlays", unfollowed := true, recurses := true, apart := false, narrowed := true }
def AgendaPlaysUptoSaid : Prop := agendaPlaysUptoRow.holds Try.pinned (OpenSpec.upto agendaPlaysSpec)

/-- 'lintellaw04.AgendaRises', WHERE WHAT IT READS IS OF BULK AT MOST 1048576: true; the input reads as it did. -/
def agendaRisesUptoRow : OpenClaim := { program := "ytiobcknobbimoaa", sum := "1744a87c46fdfd9a7eec461443f447bfc48e3cda7c50cbbbb301ca5351c08dcd", func := "lintel/lintellaw04.AgendaRises", spec := "agendaRises", unfollowed := true, recurses := true, apart := false, narrowed := true }
def AgendaRisesUptoSaid : Prop := agendaRisesUptoRow.holds Try.pinned (OpenSpec.upto agendaRisesSpec)

/-- 'lintellaw04.AgendaLast', WHERE WHAT IT READS IS OF BULK AT MOST 1048576: true; the input reads as it did. -/
def agendaLastUptoRow : OpenClaim := { program := "ytiobcknobbimoaa", sum := "1744a87c46fdfd9a7eec461443f447bfc48e3cda7c50cbbbb301ca5351c08dcd", func := "lintel/lintellaw04.AgendaLast", spec := "agendaLast", unfollowed := true, recurses := true, apart := false, narrowed := true }
def AgendaLastUptoSaid : Prop := agendaLastUptoRow.holds Try.pinned (OpenSpec.upto agendaLastSpec)

/-- 'lintellaw04.AgendaTies', WHERE WHAT IT READS IS OF BULK AT MOST 1048576: true; the input reads as it did. -/
def agendaTiesUptoRow : OpenClaim := { program := "ytiobcknobbimoaa", sum := "1744a87c46fdfd9a7eec461443f447bfc48e3cda7c50cbbbb301ca5351c08dcd", func := "lintel/lintellaw04.AgendaTies", spec := "agendaTies", unfollowed := true, recurses := true, apart := false, narrowed := true }
def AgendaTiesUptoSaid : Prop := agendaTiesUptoRow.holds Try.pinned (OpenSpec.upto agendaTiesSpec)

/-- 'lintellaw04.AgendaSplits', WHERE WHAT IT READS IS OF BULK AT MOST 1048576: true; the input reads as it did. -/
def agendaSplitsUptoRow : OpenClaim := { program := "ytiobcknobbimoaa", sum := "1744a87c46fdfd9a7eec461443f447bfc48e3cda7c50cbbbb301ca5351c08dcd", func := "lintel/lintellaw04.AgendaSplits", spec := "agendaSplits", unfollowed := true, recurses := true, apart := false, narrowed := true }
def AgendaSplitsUptoSaid : Prop := agendaSplitsUptoRow.holds Try.pinned (OpenSpec.upto agendaSplitsSpec)

/-- 'lintellaw04.AgendaNil', WHERE WHAT IT READS IS OF BULK AT MOST 1048576: true; the input reads as it did. -/
def agendaNilUptoRow : OpenClaim := { program := "ytiobcknobbimoaa", sum := "1744a87c46fdfd9a7eec461443f447bfc48e3cda7c50cbbbb301ca5351c08dcd", func := "lintel/lintellaw04.AgendaNil", spec := "agendaNil", unfollowed := true, recurses := true, apart := false, narrowed := true }
def AgendaNilUptoSaid : Prop := agendaNilUptoRow.holds Try.pinned (OpenSpec.upto agendaNilSpec)

end Rows
end Go.Proofs.Ytiobcknobbimoaa
