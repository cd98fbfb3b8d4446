/-
  No cell of these rows narrows 'for every input' (looked for: loops, veiled, ifaces, maps, wideKeys, modest, calm, conditions, laid).
  DERIVED. THE GIVEN ROWS OF THIS SEAT. 7 by the template 'for every input the law returns true; each argument reads behind the call as it read before'; 0 by the template 'total and deterministic' (their statements: YtphenpncdhgdhaaTotals.lean).
  GIVEN WITH THE SEED: the statements are not yours to turn. If you find one false, say at which input.
  Laid BY PROGRAM, IN A SANDBOX (cutbox-rows.mjs): the forced cells as the released guide's own fill.sh prints them over the translation d5d01a403cca7b68… (all of the seat's roots in one cut). By AI agents, Wed Nov 11 2026. No macro, syntax, notation, axiom, sorry.
-/
import Derived.Test.YtphenpncdhgdhaaChecked
import GoSem.Claim
import GoSem.ClaimJoined
import GoSem.ClaimMapViews
import Derived.JoinedTies
import Derived.KernelRfl
namespace Go.Proofs.Ytphenpncdhgdhaa
/- THE CELL 'sum', in the pinned program and in every row, IS THE sha256 OF THE DUMP (.gsa) THAT YtphenpncdhgdhaaProg.lean LOADS. Nothing in Lean hashes anything: it is a label: what it is worth is what the hold of that sum in a sandbox is worth. -/
noncomputable def Try.pinned : Pinned := { name := "ytphenpncdhgdhaa", sum := "d5d01a403cca7b686ef7910cce16aaec25490bdc351a6e11b7a8d5f7fad55a41", checked := Try.checked }
namespace Rows
def none {H : Type} : Left H := { results := [], args := [] }

/-- 'lintellaw13.ShardHolds': WHATEVER THE INPUT: true; the input reads as it did. -/
def shardHoldsSpec : ChangeSpec := { name := "shardHolds", fn := fun _ => fun
  | [d1, d2, d3, d4] => { results := [.lit (.bool true)], args := [d1, d2, d3, d4] }
  | _ => none }
def shardHoldsRow : OpenClaim := { program := "ytphenpncdhgdhaa", sum := "d5d01a403cca7b686ef7910cce16aaec25490bdc351a6e11b7a8d5f7fad55a41", func := "lintel/lintellaw13.ShardHolds", spec := "shardHolds", inPlace := ["internal/bytealg.abigen_runtime_cmpstring", "slices.overlaps[lintel/api.Row]"], unfollowed := true, recurses := true, plainKeys := false, apart := false }
def ShardHoldsSaid : Prop := shardHoldsRow.holds Try.pinned (OpenSpec.ofChange shardHoldsSpec)

/-- ITS FALSE NEIGHBOUR: 'it returns false'. Refute it at one input. -/
def shardHoldsWrong : ChangeSpec := { name := "shardHolds", fn := fun _ => fun
  | [d1, d2, d3, d4] => { results := [.lit (.bool false)], args := [d1, d2, d3, d4] }
  | _ => none }
def ShardHoldsWrongFalsely : Prop := shardHoldsRow.holds Try.pinned (OpenSpec.ofChange shardHoldsWrong)

/-- 'lintellaw13.ShardLocks': WHATEVER THE INPUT: true; the input reads as it did. -/
def shardLocksSpec : ChangeSpec := { name := "shardLocks", fn := fun _ => fun
  | [d] => { results := [.lit (.bool true)], args := [d] }
  | _ => none }
def shardLocksRow : OpenClaim := { program := "ytphenpncdhgdhaa", sum := "d5d01a403cca7b686ef7910cce16aaec25490bdc351a6e11b7a8d5f7fad55a41", func := "lintel/lintellaw13.ShardLocks", spec := "shardLocks", inPlace := ["internal/bytealg.abigen_runtime_cmpstring", "slices.overlaps[lintel/api.Row]"], unfollowed := true, recurses := true, plainKeys := false, apart := false }
def ShardLocksSaid : Prop := shardLocksRow.holds Try.pinned (OpenSpec.ofChange shardLocksSpec)

/-- ITS FALSE NEIGHBOUR: 'it returns false'. Refute it at one input. -/
def shardLocksWrong : ChangeSpec := { name := "shardLocks", fn := fun _ => fun
  | [d] => { results := [.lit (.bool false)], args := [d] }
  | _ => none }
def ShardLocksWrongFalsely : Prop := shardLocksRow.holds Try.pinned (OpenSpec.ofChange shardLocksWrong)

/-- 'lintellaw13.ShardPlays': WHATEVER THE INPUT: true; the input reads as it did. -/
def shardPlaysSpec : ChangeSpec := { name := "shardPlays", fn := fun _ => fun
  | [d] => { results := [.lit (.bool true)], args := [d] }
  | _ => none }
def shardPlaysRow : OpenClaim := { program := "ytphenpncdhgdhaa", sum := "d5d01a403cca7b686ef7910cce16aaec25490bdc351a6e11b7a8d5f7fad55a41", func := "lintel/lintellaw13.ShardPlays", spec := "shardPlays", inPlace := ["internal/bytealg.abigen_runtime_cmpstring", "slices.overlaps[lintel/api.Row]"], unfollowed := true, recurses := true, plainKeys := false, apart := false }
def ShardPlaysSaid : Prop := shardPlaysRow.holds Try.pinned (OpenSpec.ofChange shardPlaysSpec)

/-- ITS FALSE NEIGHBOUR: 'it returns false'. Refute it at one input. -/
def shardPlaysWrong : ChangeSpec := { name := "shardPlays", fn := fun _ => fun
  | [d] => { results := [.lit (.bool false)], args := [d] }
  | _ => none }
def ShardPlaysWrongFalsely : Prop := shardPlaysRow.holds Try.pinned (OpenSpec.ofChange shardPlaysWrong)

/-- 'lintellaw13.ShardOnce': WHATEVER THE INPUT: true; the input reads as it did. -/
def shardOnceSpec : ChangeSpec := { name := "shardOnce", fn := fun _ => fun
  | [d1, d2, d3] => { results := [.lit (.bool true)], args := [d1, d2, d3] }
  | _ => none }
def shardOnceRow : OpenClaim := { program := "ytphenpncdhgdhaa", sum := "d5d01a403cca7b686ef7910cce16aaec25490bdc351a6e11b7a8d5f7fad55a41", func := "lintel/lintellaw13.ShardOnce", spec := "shardOnce", inPlace := ["internal/bytealg.abigen_runtime_cmpstring", "slices.overlaps[lintel/api.Row]"], unfollowed := true, recurses := true, plainKeys := false, apart := false }
def ShardOnceSaid : Prop := shardOnceRow.holds Try.pinned (OpenSpec.ofChange shardOnceSpec)

/-- ITS FALSE NEIGHBOUR: 'it returns false'. Refute it at one input. -/
def shardOnceWrong : ChangeSpec := { name := "shardOnce", fn := fun _ => fun
  | [d1, d2, d3] => { results := [.lit (.bool false)], args := [d1, d2, d3] }
  | _ => none }
def ShardOnceWrongFalsely : Prop := shardOnceRow.holds Try.pinned (OpenSpec.ofChange shardOnceWrong)

/-- 'lintellaw13.ShardNil': WHATEVER THE INPUT: true; the input reads as it did. -/
def shardNilSpec : ChangeSpec := { name := "shardNil", fn := fun _ => fun
  | [d] => { results := [.lit (.bool true)], args := [d] }
  | _ => none }
def shardNilRow : OpenClaim := { program := "ytphenpncdhgdhaa", sum := "d5d01a403cca7b686ef7910cce16aaec25490bdc351a6e11b7a8d5f7fad55a41", func := "lintel/lintellaw13.ShardNil", spec := "shardNil", inPlace := ["internal/bytealg.abigen_runtime_cmpstring", "slices.overlaps[lintel/api.Row]"], unfollowed := true, recurses := true, plainKeys := false, apart := false }
def ShardNilSaid : Prop := shardNilRow.holds Try.pinned (OpenSpec.ofChange shardNilSpec)

/-- ITS FALSE NEIGHBOUR: 'it returns false'. Refute it at one input. -/
def shardNilWrong : ChangeSpec := { name := "shardNil", fn := fun _ => fun
  | [d] => { results := [.lit (.bool false)], args := [d] }
  | _ => none }
def ShardNilWrongFalsely : Prop := shardNilRow.holds Try.pinned (OpenSpec.ofChange shardNilWrong)

/-- 'lintellaw13.ShardLoads': WHATEVER THE INPUT: true; the input reads as it did. -/
def shardLoadsSpec : ChangeSpec := { name := "shardLoads", fn := fun _ => fun
  | [d1, d2] => { results := [.lit (.bool true)], args := [d1, d2] }
  | _ => none }
def shardLoadsRow : OpenClaim := { program := "ytphenpncdhgdhaa", sum := "d5d01a403cca7b686ef7910cce16aaec25490bdc351a6e11b7a8d5f7fad55a41", func := "lintel/lintellaw13.ShardLoads", spec := "shardLoads", inPlace := ["internal/bytealg.abigen_runtime_cmpstring", "slices.overlaps[lintel/api.Row]"], unfollowed := true, recurses := true, plainKeys := false, apart := false }
def ShardLoadsSaid : Prop := shardLoadsRow.holds Try.pinned (OpenSpec.ofChange shardLoadsSpec)

/-- ITS FALSE NEIGHBOUR: 'it returns false'. Refute it at one input. -/
def shardLoadsWrong : ChangeSpec := { name := "shardLoads", fn := fun _ => fun
  | [d1, d2] => { results := [.lit (.bool false)], args := [d1, d2] }
  | _ => none }
def ShardLoadsWrongFalsely : Prop := shardLoadsRow.holds Try.pinned (OpenSpec.ofChange shardLoadsWrong)

/-- 'lintellaw13.ShardSaves': WHATEVER THE INPUT: true; the input reads as it did. -/
def shardSavesSpec : ChangeSpec := { name := "shardSaves", fn := fun _ => fun
  | [d1, d2] => { results := [.lit (.bool true)], args := [d1, d2] }
  | _ => none }
def shardSavesRow : OpenClaim := { program := "ytphenpncdhgdhaa", sum := "d5d01a403cca7b686ef7910cce16aaec25490bdc351a6e11b7a8d5f7fad55a41", func := "lintel/lintellaw13.ShardSaves", spec := "shardSaves", inPlace := ["internal/bytealg.abigen_runtime_cmpstring", "slices.overlaps[lintel/api.Row]"], unfollowed := true, recurses := true, plainKeys := false, apart := false }
def ShardSavesSaid : Prop := shardSavesRow.holds Try.pinned (OpenSpec.ofChange shardSavesSpec)

/-- ITS FALSE NEIGHBOUR: 'it returns false'. Refute it at one input. -/
def shardSavesWrong : ChangeSpec := { name := "shardSaves", fn := fun _ => fun
  | [d1, d2] => { results := [.lit (.bool false)], args := [d1, d2] }
  | _ => none }
def ShardSavesWrongFalsely : Prop := shardSavesRow.holds Try.pinned (OpenSpec.ofChange shardSavesWrong)

/- THE SECOND FORM. 'bulk': how many values and letters a reading holds, each counted each time it is reached (what is shared counts as often as it is met; a slice's spare places count too). A statement '..UptoSaid' is the law's where the arguments, and the package variables that the reading takes, are together of bulk at most 1048576: NARROWER than '..Said'. Prove '..Said' where nothing that the law and all that it calls make is longer than what came in: it says more and counts as full. Else prove '..UptoSaid'. A law counts once. -/
mutual
def uptoBulk {H : Type} : DataW H → Nat
  | .lit (.string bytes) => bytes.length + 1
  | .lit _ => 1
  | .nil => 1
  | .ptr d => uptoBulk d + 1
  | .slice elems spare => uptoBulkAll elems + uptoBulkAll spare + 1
  | .agg parts => uptoBulkAll parts + 1
  | .iface _ d => uptoBulk d + 1
  | .map entries => uptoBulkEntries entries + 1
  | .held _ => 1
def uptoBulkAll {H : Type} : List (DataW H) → Nat
  | [] => 0
  | d :: r => uptoBulk d + uptoBulkAll r
def uptoBulkEntries {H : Type} : List (Lit × DataW H) → Nat
  | [] => 0
  | x :: r => uptoBulkEntry x + uptoBulkEntries r
def uptoBulkEntry {H : Type} : Lit × DataW H → Nat
  | (.string bytes, d) => bytes.length + uptoBulk d + 1
  | (_, d) => uptoBulk d + 1
 end
def uptoSmall : (H : Type) → List (DataW H) → Bool := fun _ ds => decide (uptoBulkAll ds ≤ 1048576)
def OpenSpec.upto (s : _root_.Go.ChangeSpec) : _root_.Go.OpenSpec := { _root_.Go.OpenSpec.ofChange s with cond := some uptoSmall }

/-- 'lintellaw13.ShardHolds', WHERE WHAT IT READS IS OF BULK AT MOST 1048576: true; the input reads as it did. -/
def shardHoldsUptoRow : OpenClaim := { program := "ytphenpncdhgdhaa", sum := "d5d01a403cca7b686ef7910cce16aaec25490bdc351a6e11b7a8d5f7fad55a41", func := "lintel/lintellaw13.ShardHolds", spec := "shardHolds", inPlace := ["internal/bytealg.abigen_runtime_cmpstring", "slices.overlaps[lintel/api.Row]"], unfollowed := true, recurses := true, plainKeys := false, apart := false, narrowed := true }
def ShardHoldsUptoSaid : Prop := shardHoldsUptoRow.holds Try.pinned (OpenSpec.upto shardHoldsSpec)

/-- 'lintellaw13.ShardLocks', WHERE WHAT IT READS IS OF BULK AT MOST 1048576: true; the input reads as it did. -/
def shardLocksUptoRow : OpenClaim := { program := "ytphenpncdhgdhaa", sum := "d5d01a403cca7b686ef7910cce16aaec25490bdc351a6e11b7a8d5f7fad55a41", func := "lintel/lintellaw13.ShardLocks", spec := "shardLocks", inPlace := ["internal/bytealg.abigen_runtime_cmpstring", "slices.overlaps[lintel/api.Row]"], unfollowed := true, recurses := true, plainKeys := false, apart := false, narrowed := true }
def ShardLocksUptoSaid : Prop := shardLocksUptoRow.holds Try.pinned (OpenSpec.upto shardLocksSpec)

/-- 'lintellaw13.ShardPlays', WHERE WHAT IT READS IS OF BULK AT MOST 1048576: true; the input reads as it did. -/
def shardPlaysUptoRow : OpenClaim := { program := "ytphenpncdhgdhaa", sum := "d5d01a403cca7b686ef7910cce16aaec25490bdc351a6e11b7a8d5f7fad55a41", func := "lintel/lintellaw13.ShardPlays", spec := "shardPlays", inPlace := ["internal/bytealg.abigen_runtime_cmpstring", "slices.overlaps[lintel/api.Row]"], unfollowed := true, recurses := true, plainKeys := false, apart := false, narrowed := true }
def ShardPlaysUptoSaid : Prop := shardPlaysUptoRow.holds Try.pinned (OpenSpec.upto shardPlaysSpec)

/-- 'lintellaw13.ShardOnce', WHERE WHAT IT READS IS OF BULK AT MOST 1048576: true; the input reads as it did. -/
def shardOnceUptoRow : OpenClaim := { program := "ytphenpncdhgdhaa", sum := "d5d01a403cca7b686ef7910cce16aaec25490bdc351a6e11b7a8d5f7fad55a41", func := "lintel/lintellaw13.ShardOnce", spec := "shardOnce", inPlace := ["internal/bytealg.abigen_runtime_cmpstring", "slices.overlaps[lintel/api.Row]"], unfollowed := true, recurses := true, plainKeys := false, apart := false, narrowed := true }
def ShardOnceUptoSaid : Prop := shardOnceUptoRow.holds Try.pinned (OpenSpec.upto shardOnceSpec)

/-- 'lintellaw13.ShardNil', WHERE WHAT IT READS IS OF BULK AT MOST 1048576: true; the input reads as it did. -/
def shardNilUptoRow : OpenClaim := { program := "ytphenpncdhgdhaa", sum := "d5d01a403cca7b686ef7910cce16aaec25490bdc351a6e11b7a8d5f7fad55a41", func := "lintel/lintellaw13.ShardNil", spec := "shardNil", inPlace := ["internal/bytealg.abigen_runtime_cmpstring", "slices.overlaps[lintel/api.Row]"], unfollowed := true, recurses := true, plainKeys := false, apart := false, narrowed := true }
def ShardNilUptoSaid : Prop := shardNilUptoRow.holds Try.pinned (OpenSpec.upto shardNilSpec)

/-- 'lintellaw13.ShardLoads', WHERE WHAT IT READS IS OF BULK AT MOST 1048576: true; the input reads as it did. -/
def shardLoadsUptoRow : OpenClaim := { program := "ytphenpncdhgdhaa", sum := "d5d01a403cca7b686ef7910cce16aaec25490bdc351a6e11b7a8d5f7fad55a41", func := "lintel/lintellaw13.ShardLoads", spec := "shardLoads", inPlace := ["internal/bytealg.abigen_runtime_cmpstring", "slices.overlaps[lintel/api.Row]"], unfollowed := true, recurses := true, plainKeys := false, apart := false, narrowed := true }
def ShardLoadsUptoSaid : Prop := shardLoadsUptoRow.holds Try.pinned (OpenSpec.upto shardLoadsSpec)

/-- 'lintellaw13.ShardSaves', WHERE WHAT IT READS IS OF BULK AT MOST 1048576: true; the input reads as it did. -/
def shardSavesUptoRow : OpenClaim := { program := "ytphenpncdhgdhaa", sum := "d5d01a403cca7b686ef7910cce16aaec25490bdc351a6e11b7a8d5f7fad55a41", func := "lintel/lintellaw13.ShardSaves", spec := "shardSaves", inPlace := ["internal/bytealg.abigen_runtime_cmpstring", "slices.overlaps[lintel/api.Row]"], unfollowed := true, recurses := true, plainKeys := false, apart := false, narrowed := true }
def ShardSavesUptoSaid : Prop := shardSavesUptoRow.holds Try.pinned (OpenSpec.upto shardSavesSpec)

end Rows
end Go.Proofs.Ytphenpncdhgdhaa
