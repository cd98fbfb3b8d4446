/- The document's Decode, and the program's number: what the printed functions compute. -/
import Derived.Test.YtkhbmamcbhjafaaKeysD
import Derived.Test.YtkhbmamcbhjafaaPRefx5
import Derived.Test.YtkhbmamcbhjafaaPRefx5
namespace Go.Proofs.Ytkhbmamcbhjafaa.Keys
open Go.RowKit Go.Proofs.YtkhbmamcbhjafaaW.PrintWords Go.Proofs.YtkhbmamcbhjafaaW.PrintLast Go.Proofs.YtkhbmamcbhjafaaW.PrintMore Go.Proofs.Ytkhbmamcbhjafaa.Str Go.Proofs.Ytkhbmamcbhjafaa.PRef Go.Proofs.Ytkhbmamcbhjafaa.Stands
set_option linter.unusedVariables false
set_option linter.unusedSimpArgs false
theorem unesc_suffix (l acc t r : List UInt8) (h : unesc acc l = some (t, r)) : ∃ p, l = p ++ r := by
  obtain ⟨t', _, e⟩ := unesc_inv l.length l acc t r (Nat.le_refl _) h
  exact ⟨_, e⟩
theorem drop_drop_at (s : ByteArray) (i : Nat) (h : i + 1 < s.size) : s.toList.drop i = s[i] :: s[i + 1] :: s.toList.drop (i + 2) := by
  rw [drop_at s i (by omega), drop_at s (i + 1) h]
theorem drop_last (s : ByteArray) (i : Nat) (h : ¬ i + 1 < s.size) : s.toList.drop i = [] ∨ ∃ b, s.toList.drop i = [b] := by
  have hl : (s.toList.drop i).length ≤ 1 := by rw [List.length_drop, size_toList]; omega
  match e : s.toList.drop i, hl with
  | [], _ => exact .inl rfl
  | [b], _ => exact .inr ⟨b, rfl⟩
theorem decV_suffix (l : List UInt8) (v : V) (r : List UInt8) (h : decV l = some (v, r)) : r = l.drop (l.length - r.length) ∧ r.length < l.length := by
  obtain ⟨e, _⟩ := decV_inv l v r h
  have hlen : l.length = (enc v).length + r.length := by rw [e, List.length_append]
  have h1 : 0 < (enc v).length := by simp [enc]
  refine ⟨?_, by omega⟩
  rw [show l.length - r.length = (enc v).length by omega]
  conv => rhs; rw [e]
  rw [List.drop_left]
theorem extract_toList (s : ByteArray) (n : Nat) (h : n ≤ s.size) : (s.extract n s.size).toList = s.toList.drop n := by
  rw [toList_eq, toList_eq, ByteArray.data_extract, Array.toList_extract]
  simp [List.extract_eq_take_drop]
  rw [List.take_of_length_le]
  rw [List.length_drop]
  show s.data.toList.length - n ≤ s.size - n
  rw [Array.length_toList]
  exact Nat.le_refl _
/-- What a reader of the program answers. -/
def readA (s : ByteArray) : Option (V × List UInt8) → Int × Int × ByteArray × Bool × ByteArray
  | some (v, r) => (v.f0, v.f1, v.f2, true, ⟨r.toArray⟩)
  | none => (0, 0, ⟨#[]⟩, false, s)
theorem or_num (a b : Nat) (ha : a < 72057594037927936) (hb : b < 256) : Go.bits .or .u64 (IntKind.u64.wrap ((a : Int) * 256)) (IntKind.u64.wrap (b : Int)) = ((a * 256 + b : Nat) : Int) := by
  have h := Nat.two_pow_add_eq_or_of_lt (i := 8) (b := b) (by simpa using hb) a
  rw [IntKind.wrap_u64, IntKind.wrap_u64, u64_or _ _ (by omega) (by omega) (by omega) (by omega)]
  have e1 : ((a : Int) * 256 % 18446744073709551616).toNat = 2 ^ 8 * a := by omega
  have e2 : ((b : Int) % 18446744073709551616).toNat = b := by omega
  rw [e1, e2, ← h]
  omega
theorem xor_num (u : Nat) (h : u < 18446744073709551616) : wrap64 (Go.bits .xor .u64 (u : Int) 9223372036854775808) = (u : Int) - 9223372036854775808 := by
  rw [u64_xor _ _ (by omega) (by omega) (by omega) (by omega), show (9223372036854775808 : Int).toNat = 9223372036854775808 from rfl, Int.toNat_natCast, xor63 _ h]
  unfold wrap64
  omega
theorem number_l0 (s : ByteArray) (h9 : 8 ≤ s.size) : ∀ (d i k : Nat), i + d = 8 → d < k →
    keys_reader_number.l0 k (num (s.toList.take i) : Int) (i : Int) s = some (1, (num (s.toList.take 8) : Int) - 9223372036854775808, (⟨#[]⟩ : ByteArray), true, s.extract 8 s.size) := by
  have hlt : ∀ i, i ≤ 8 → num (s.toList.take i) < 256 ^ i := by
    intro i hi
    have h1 := num_lt (s.toList.take i)
    rwa [List.length_take, size_toList, Nat.min_eq_left (by omega)] at h1
  intro d
  induction d with
  | zero =>
    intro i k hi hk
    obtain ⟨k, rfl⟩ : ∃ m, k = m + 1 := ⟨k - 1, by omega⟩
    obtain rfl : i = 8 := by omega
    have h1 := hlt 8 (by omega)
    have hp : (256 : Nat) ^ 8 = 18446744073709551616 := by decide
    simp only [keys_reader_number.l0]
    rw [if_neg (by omega), if_pos (by omega), xor_num _ (by omega)]
  | succ d ih =>
    intro i k hi hk
    obtain ⟨k, rfl⟩ : ∃ m, k = m + 1 := ⟨k - 1, by omega⟩
    have h1 := hlt i (by omega)
    have h2 : 256 ^ i ≤ 256 ^ 7 := Nat.pow_le_pow_right (by decide) (by omega)
    have hp : (256 : Nat) ^ 7 = 72057594037927936 := by decide
    have hw : wrap64 ((i : Int) + 1) = ((i + 1 : Nat) : Int) := by unfold wrap64; omega
    have ht : s.toList.take (i + 1) = s.toList.take i ++ [s[i]'(by omega)] := by
      have hd := drop_at s i (by omega)
      have hi2 : i < s.toList.length := by rw [size_toList]; omega
      rw [List.take_succ_eq_append_getElem hi2]
      congr 2
      rw [List.drop_eq_getElem_cons hi2] at hd
      exact (List.cons.inj hd).1
    have hb := bt_nat s i (by omega)
    have h256 : (s[i]'(by omega)).toNat < 256 := (s[i]'(by omega)).toNat_lt
    simp only [keys_reader_number.l0]
    rw [if_pos (by omega), if_pos (by omega), if_pos (by omega), hb, or_num _ _ (by omega) h256, hw, ← num_snoc, ← ht]
    exact ih (i + 1) k (by omega) (by omega)
theorem number_eq (s : ByteArray) (k : Nat) (hk : 20 ≤ k) : keys_reader_number.f k s = some (readA s (if 8 ≤ s.toList.length then some (⟨1, (num (s.toList.take 8) : Int) - 9223372036854775808, ⟨#[]⟩⟩, s.toList.drop 8) else none)) := by
  unfold keys_reader_number.f
  rw [size_toList]
  by_cases h : 8 ≤ s.size
  · rw [if_neg (by omega), if_pos h]
    have := number_l0 s h 8 0 k (by omega) (by omega)
    rw [show ((num (s.toList.take 0) : Nat) : Int) = 0 from rfl, show ((0 : Nat) : Int) = 0 from rfl] at this
    rw [this]
    simp only [readA]
    congr 5
    exact ext _ _ ((extract_toList s 8 h).trans (mk_toList _).symm)
  · rw [if_pos (by omega), if_neg h]; rfl
end Go.Proofs.Ytkhbmamcbhjafaa.Keys
