/- The bytes of cells: what putting them wants. Plain Lean. -/
import Derived.Test.YtkhbmamcbhjafaaKeysAll
namespace Go.Proofs.Ytkhbmamcbhjafaa.Keys
open Go.Proofs.Ytkhbmamcbhjafaa.Str Go.Proofs.Ytkhbmamcbhjafaa.PRef Go.Proofs.Ytkhbmamcbhjafaa.Stands
set_option linter.unusedVariables false
set_option linter.unusedSimpArgs false
abbrev C := S73
def numV (n : Int) : V := ⟨1, n, ⟨#[]⟩⟩
theorem numV_right (n : Int) : rightV (numV n) = true := by
  unfold rightV numV
  rw [if_neg (by show ¬ (1 : Int) = 0; omega), if_pos rfl, decide_eq_true (mk_toList [])]
/-- A number's value is what its kind says. -/
theorem numV_of (v : V) (h : rightV v = true) (k : v.f0 = 1) : v = numV v.f1 := v_ext _ _ k rfl (ext _ _ ((right_int h k).trans (mk_toList []).symm))
def pair (c : C) : List V := [numV c.f0, c.f1]
def chunk (c : C) : List UInt8 := UInt8.ofNat (encL (pair c)).length :: encL (pair c)
def putL : List C → List UInt8
  | [] => []
  | c :: l => chunk c ++ putL l
theorem putL_app : ∀ a b : List C, putL (a ++ b) = putL a ++ putL b
  | [], _ => rfl
  | c :: a, b => by simp only [List.cons_append, putL, putL_app a b, List.append_assoc]
/-- May the cells be, behind a number? -/
def okC : Int → List C → Bool
  | _, [] => true
  | last, c :: l => decide (last < c.f0) && rightV c.f1 && okC c.f0 l
def lastC : Int → List C → Int
  | last, [] => last
  | _, c :: l => lastC c.f0 l
theorem okC_app : ∀ (l m : List C) (last : Int), okC last (l ++ m) = (okC last l && okC (lastC last l) m)
  | [], m, last => by simp [okC, lastC]
  | c :: l, m, last => by simp only [List.cons_append, okC, lastC, okC_app l m, Bool.and_assoc]
theorem lastC_snoc (c : C) : ∀ (l : List C) (last : Int), lastC last (l ++ [c]) = c.f0
  | [], _ => rfl
  | x :: l, _ => lastC_snoc c l x.f0
/-- All of it 64 bits. -/
def C64 (l : List C) : Prop := ∀ c ∈ l, In64 c.f0 ∧ In64 c.f1.f1
theorem c64_cons {c : C} {l : List C} (h : C64 (c :: l)) : In64 c.f0 ∧ In64 c.f1.f1 ∧ C64 l := ⟨(h c (by simp)).1, (h c (by simp)).2, fun x hx => h x (by simp [hx])⟩
theorem pair_good {c : C} (h : rightV c.f1 = true) (h0 : In64 c.f0) (h1 : In64 c.f1.f1) : Good (pair c) := by
  intro v hv
  simp only [pair, List.mem_cons, List.not_mem_nil, or_false] at hv
  rcases hv with rfl | rfl
  · exact ⟨numV_right _, h0⟩
  · exact ⟨h, h1⟩
theorem pair_length {c : C} (h : rightV c.f1 = true) : (encL (pair c)).length ≤ 140 := by
  have h1 := enc_length c.f1 h
  have h2 : (enc (numV c.f0)).length = 9 := by simp [enc, tail, numV, be_length]
  simp only [pair, encL, List.append_nil, List.length_append]
  omega
theorem pair_n64 {c : C} (h0 : In64 c.f0) (h1 : In64 c.f1.f1) : N64 (pair c) := by
  intro v hv
  simp only [pair, List.mem_cons, List.not_mem_nil, or_false] at hv
  rcases hv with rfl | rfl
  · exact h0
  · exact h1
theorem pair_encode {c : C} (h : rightV c.f1 = true) : encode (pair c) = (⟨(encL (pair c)).toArray⟩, 0) := by
  unfold encode
  rw [if_neg (by simp [pair]), if_pos (by simp [pair, numV_right, h])]
def put (l : List C) : ByteArray × Int := if okC 0 l = true then (⟨(putL l).toArray⟩, 0) else (⟨#[]⟩, 100)
/-- The cells of a row's bytes. -/
theorem putL_len : ∀ l : List C, l.length ≤ (putL l).length
  | [] => by simp [putL]
  | c :: l => by
    have := putL_len l
    simp only [putL, List.length_append, List.length_cons, chunk]
    omega
theorem put_code (l : List C) : ∃ s e, put l = (s, e) ∧ (e = 0 ∨ e = 100) := by
  unfold put
  by_cases h : okC 0 l = true
  · rw [if_pos h]; exact ⟨_, _, rfl, .inl rfl⟩
  · rw [if_neg h]; exact ⟨_, _, rfl, .inr rfl⟩
end Go.Proofs.Ytkhbmamcbhjafaa.Keys
