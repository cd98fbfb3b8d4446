/- The laws' table and rows: what the printed function computes. -/
import Derived.Test.YtkhbmamcbhjafaaChgW
import Derived.Test.YtkhbmamcbhjafaaPRefx9
namespace Go.Proofs.Ytkhbmamcbhjafaa.Keys
open Go.RowKit Go.Proofs.YtkhbmamcbhjafaaW.PrintWords Go.Proofs.YtkhbmamcbhjafaaW.PrintLast Go.Proofs.YtkhbmamcbhjafaaW.PrintMore Go.Proofs.Ytkhbmamcbhjafaa.Str Go.Proofs.Ytkhbmamcbhjafaa.PRef Go.Proofs.Ytkhbmamcbhjafaa.Stands Go.Proofs.Ytkhbmamcbhjafaa.Sl
set_option linter.unusedVariables false
set_option linter.unusedSimpArgs false
def cellsC (k v : Int) : List C := [⟨2, numV k⟩, ⟨3, numV v⟩]
def ixOf (st : Int) : List Ix := if st = 0 then [] else [⟨4, ⟨#[105]⟩, 3, false, st⟩]
def colsC : List Cl := [⟨2, ⟨#[97]⟩, 1, 3, ⟨0, 0, ⟨#[]⟩⟩⟩, ⟨3, ⟨#[98]⟩, 1, 3, ⟨0, 0, ⟨#[]⟩⟩⟩]
theorem table_eq (st : Int) : lintellaw20_table.f st = some (1, ⟨#[116]⟩, colsC, ixOf st, []) := by
  unfold lintellaw20_table.f ixOf colsC
  simp only [Option.bind_some]
  by_cases h : st = 0
  · rw [if_pos h, if_pos h]
  · rw [if_neg h, if_neg h]
theorem ix_len (st : Int) : (ixOf st).length ≤ 100000 := by
  unfold ixOf
  split <;> simp
theorem ix_64 (st : Int) : ∀ x ∈ ixOf st, In64 x.f0 := by
  intro x hx
  unfold ixOf at hx
  split at hx
  · simp at hx
  · rw [List.mem_singleton.1 hx]; exact in64_small (n := 4) (by omega) (by omega)
theorem encode_size (l : List V) : (encode l).1.size ≤ 100000 := by
  unfold encode
  by_cases h8 : l.length > 8
  · rw [if_pos h8]; decide
  · rw [if_neg h8]
    by_cases ha : l.all rightV = true
    · rw [if_pos ha]
      show (⟨(encL l).toArray⟩ : ByteArray).size ≤ 100000
      rw [mk_size]
      have := encL_length l ha
      omega
    · rw [if_neg ha]; decide
theorem ch_is (old new : List C) (k : V) (x : Ix) (a1 a2 : Prop) [Decidable a1] [Decidable a2] (h1 : (0 < old.length ∧ (new.length = 0 ∨ ofC old x.f2 ≠ ofC new x.f2)) ↔ a1) (h2 : (0 < new.length ∧ (x.f4 = 2 ∨ x.f4 = 3)) ↔ a2) :
    chStep old new k x = (if a1 then [⟨entryK x.f0 (ofC old x.f2) k, ⟨#[]⟩, true⟩] else []) ++ (if a2 then [⟨entryK x.f0 (ofC new x.f2) k, ⟨#[]⟩, false⟩] else []) := by
  unfold chStep
  simp only [h1, h2]
end Go.Proofs.Ytkhbmamcbhjafaa.Keys
