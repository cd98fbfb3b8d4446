/- What a row's change writes: plain. -/
import Derived.Test.YtkhbmamcbhjafaaCellsA
import Derived.Test.YtkhbmamcbhjafaaPRefx6
import Derived.Test.YtkhbmamcbhjafaaPRefx6
import Derived.Test.YtkhbmamcbhjafaaPRefx7
import Derived.Test.YtkhbmamcbhjafaaPRefx7
import Derived.Test.YtkhbmamcbhjafaaPRefx9
import Derived.Test.YtkhbmamcbhjafaaPRefx9
namespace Go.Proofs.Ytkhbmamcbhjafaa.Keys
open Go.RowKit Go.Proofs.YtkhbmamcbhjafaaW.PrintWords Go.Proofs.YtkhbmamcbhjafaaW.PrintLast Go.Proofs.YtkhbmamcbhjafaaW.PrintMore Go.Proofs.Ytkhbmamcbhjafaa.Str Go.Proofs.Ytkhbmamcbhjafaa.PRef Go.Proofs.Ytkhbmamcbhjafaa.Stands Go.Proofs.Ytkhbmamcbhjafaa.Sl
set_option linter.unusedVariables false
set_option linter.unusedSimpArgs false
structure Wr where
  key : ByteArray
  val : ByteArray
  dead : Bool
def kW : Kd Wr := Kd.iso (Kd.pair Kd.string (Kd.pair Kd.string Kd.bool)) (fun x : Wr => (x.key, x.val, x.dead))
theorem kW_open {w : World} {x : Wr} {cs : List Value} (h : kW.K w x cs) : cs = [.string x.key, .string x.val, .bool x.dead] := by
  obtain ⟨_, _, rfl, rfl, ⟨_, _, rfl, rfl, rfl⟩⟩ := h
  exact rfl
theorem kW_mkM (w : World) (base : Nat) (ok : Nat → Prop) (x : Wr) : kW.M w base ok x [.string x.key, .string x.val, .bool x.dead] := ⟨[.string x.key], [.string x.val, .bool x.dead], rfl, rfl, ⟨[.string x.val], [.bool x.dead], rfl, rfl, rfl⟩⟩
abbrev Ix := S87
abbrev kI := k87
abbrev Cl := S83
abbrev kL := k83
/-- A cell's value. -/
def ofC : List C → Int → V
  | [], _ => ⟨0, 0, ⟨#[]⟩⟩
  | c :: l, id => if c.f0 = id then c.f1 else ofC l id
theorem of_l0 (l : List C) (id : Int) (hl : l.length ≤ 140737488355328) : ∀ (d i k : Nat), l.length - i = d → i ≤ l.length → d < k →
    rows_Of.l0 k id l (l.length : Int) (i : Int) = some ((ofC (l.drop i) id).f0, (ofC (l.drop i) id).f1, (ofC (l.drop i) id).f2) := by
  intro d
  induction d with
  | zero =>
    intro i k hd hi hk
    obtain ⟨k, rfl⟩ : ∃ m, k = m + 1 := ⟨k - 1, by omega⟩
    simp only [rows_Of.l0]
    rw [if_neg (by omega), List.drop_eq_nil_of_le (by omega)]
    rfl
  | succ d ih =>
    intro i k hd hi hk
    obtain ⟨k, rfl⟩ : ∃ m, k = m + 1 := ⟨k - 1, by omega⟩
    have hlt : i < l.length := by omega
    simp only [rows_Of.l0]
    rw [if_pos (by omega), if_pos (by omega), if_pos (by omega), rdc l i hlt, List.drop_eq_getElem_cons hlt]
    simp only [ofC]
    by_cases h : l[i].f0 = id
    · rw [if_pos h, if_pos h]
    · rw [if_neg h, if_neg h, show wrap64 ((i : Int) + 1) = ((i + 1 : Nat) : Int) by unfold wrap64; omega]
      exact ih (i + 1) k (by omega) (by omega) (by omega)
theorem of_eq (l : List C) (id : Int) (hl : l.length ≤ 140737488355328) : rows_Of.f (l.length + 1) l id = some ((ofC l id).f0, (ofC l id).f1, (ofC l id).f2) := of_l0 l id hl _ 0 _ rfl (Nat.zero_le _) (by omega)
theorem rof_l0 (l : List C) (id : Int) (hl : l.length ≤ 140737488355328) : ∀ (d i k : Nat), l.length - i = d → i ≤ l.length → d < k →
    lintelref20_Of.l0 k l id (i : Int) = some ((ofC (l.drop i) id).f0, (ofC (l.drop i) id).f1, (ofC (l.drop i) id).f2) := by
  intro d
  induction d with
  | zero =>
    intro i k hd hi hk
    obtain ⟨k, rfl⟩ : ∃ m, k = m + 1 := ⟨k - 1, by omega⟩
    simp only [lintelref20_Of.l0]
    rw [if_neg (by omega), List.drop_eq_nil_of_le (by omega)]
    rfl
  | succ d ih =>
    intro i k hd hi hk
    obtain ⟨k, rfl⟩ : ∃ m, k = m + 1 := ⟨k - 1, by omega⟩
    have hlt : i < l.length := by omega
    simp only [lintelref20_Of.l0]
    rw [if_pos (show (i : Int) < (l.length : Int) by omega), if_pos (show 0 ≤ (i : Int) by omega), rdc l i hlt, List.drop_eq_getElem_cons hlt]
    simp only [ofC]
    by_cases h : l[i].f0 = id
    · rw [if_pos h, if_pos h]
      try rfl
    · rw [if_neg h, if_neg h, show wrap64 ((i : Int) + 1) = ((i + 1 : Nat) : Int) by unfold wrap64; omega]
      exact ih (i + 1) k (by omega) (by omega) (by omega)
theorem rof_eq (l : List C) (id : Int) (hl : l.length ≤ 140737488355328) : lintelref20_Of.f (l.length + 1) l id = some ((ofC l id).f0, (ofC l id).f1, (ofC l id).f2) := rof_l0 l id hl _ 0 _ rfl (Nat.zero_le _) (by omega)
/-- Keys. -/
def keyOf (l : List V) : ByteArray := (encode l).1
def entryK (i : Int) (v k : V) : ByteArray := keyOf [numV 1, numV i, v, k]
def rowK (t : Int) (k : V) : ByteArray := keyOf [numV 0, numV t, k]
theorem num_64 {n : Int} (h : In64 n) : In64 (numV n).f1 := h
theorem n64_of {l : List V} (h : ∀ v ∈ l, In64 v.f1) : N64 l := h
theorem in64_small {n : Int} (h0 : -1000000 ≤ n) (h1 : n ≤ 1000000) : In64 n := by unfold In64; omega
theorem entry_n64 {i : Int} {v k : V} (hi : In64 i) (hv : In64 v.f1) (hk : In64 k.f1) : N64 [numV 1, numV i, v, k] := by
  intro x hx
  simp only [List.mem_cons, List.not_mem_nil, or_false] at hx
  rcases hx with rfl | rfl | rfl | rfl
  · exact in64_small (n := 1) (by omega) (by omega)
  · exact hi
  · exact hv
  · exact hk
theorem row_n64 {t : Int} {k : V} (ht : In64 t) (hk : In64 k.f1) : N64 [numV 0, numV t, k] := by
  intro x hx
  simp only [List.mem_cons, List.not_mem_nil, or_false] at hx
  rcases hx with rfl | rfl | rfl
  · exact in64_small (n := 0) (by omega) (by omega)
  · exact ht
  · exact hk
theorem entry_eq (i : Int) (v k : V) (hi : In64 i) (hv : In64 v.f1) (hk : In64 k.f1) : rows_Entry.f 300 i v.f0 v.f1 v.f2 k.f0 k.f1 k.f2 = some (entryK i v k) := by
  have h := encode_eq [numV 1, numV i, v, k] (entry_n64 hi hv hk) 300 (Nat.le_refl _)
  unfold rows_Entry.f rows_num.f rows_key.f
  simp only [Option.bind_some]
  rw [show ([⟨1, 1, ⟨#[]⟩⟩, ⟨1, i, ⟨#[]⟩⟩, ⟨v.f0, v.f1, v.f2⟩, ⟨k.f0, k.f1, k.f2⟩] : List V) = [numV 1, numV i, v, k] from rfl, h]
  rfl
theorem rentry_eq (i : Int) (v k : V) (hi : In64 i) (hv : In64 v.f1) (hk : In64 k.f1) : lintelref20_Entry.f 300 i v.f0 v.f1 v.f2 k.f0 k.f1 k.f2 = some (entryK i v k) := by
  have h := ref_encode_eq [numV 1, numV i, v, k] (entry_n64 hi hv hk) 300 (Nat.le_refl _)
  unfold lintelref20_Entry.f lintelref20_Num.f
  simp only [Option.bind_some]
  rw [show ([⟨1, 1, ⟨#[]⟩⟩, ⟨1, i, ⟨#[]⟩⟩, ⟨v.f0, v.f1, v.f2⟩, ⟨k.f0, k.f1, k.f2⟩] : List V) = [numV 1, numV i, v, k] from rfl, h]
  rfl
theorem row_eq (t : Int) (k : V) (ht : In64 t) (hk : In64 k.f1) : rows_Row.f 300 t k.f0 k.f1 k.f2 = some (rowK t k) := by
  have h := encode_eq [numV 0, numV t, k] (row_n64 ht hk) 300 (Nat.le_refl _)
  unfold rows_Row.f rows_num.f rows_key.f
  simp only [Option.bind_some]
  rw [show ([⟨1, 0, ⟨#[]⟩⟩, ⟨1, t, ⟨#[]⟩⟩, ⟨k.f0, k.f1, k.f2⟩] : List V) = [numV 0, numV t, k] from rfl, h]
  rfl
/-- What an index' entry of a row's change writes. -/
def chStep (old new : List C) (k : V) (x : Ix) : List Wr :=
  (if 0 < old.length ∧ (new.length = 0 ∨ ofC old x.f2 ≠ ofC new x.f2) then [⟨entryK x.f0 (ofC old x.f2) k, ⟨#[]⟩, true⟩] else []) ++
  (if 0 < new.length ∧ (x.f4 = 2 ∨ x.f4 = 3) then [⟨entryK x.f0 (ofC new x.f2) k, ⟨#[]⟩, false⟩] else [])
def chKey (id : Int) (old new : List C) : V := if 0 < old.length then ofC old id else ofC new id
def changes (tid id : Int) (idx : List Ix) (old new : List C) : List Wr :=
  if old.length + new.length = 0 then [] else if (put new).2 ≠ 0 then [] else
    ⟨rowK tid (chKey id old new), (put new).1, decide (new.length = 0)⟩ :: (idx.map (chStep old new (chKey id old new))).flatten
end Go.Proofs.Ytkhbmamcbhjafaa.Keys
