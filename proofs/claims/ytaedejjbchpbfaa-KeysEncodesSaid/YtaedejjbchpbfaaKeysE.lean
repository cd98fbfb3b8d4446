/- What the program's and the document's Encode compute, over the printed functions. -/
import Derived.Test.YtaedejjbchpbfaaKeysP
import Derived.Test.YtaedejjbchpbfaaStands
import Derived.Laws.BitsAllLaws
import Derived.Lib.LazyBuf
namespace Go.Proofs.Ytaedejjbchpbfaa.Keys
open Go.RowKit Go.Proofs.YtaedejjbchpbfaaW.PrintWords Go.Proofs.YtaedejjbchpbfaaW.PrintLast Go.Proofs.YtaedejjbchpbfaaW.PrintMore Go.Proofs.Ytaedejjbchpbfaa.Str Go.Proofs.Ytaedejjbchpbfaa.PRef Go.Proofs.Ytaedejjbchpbfaa.Stands
set_option linter.unusedVariables false
set_option linter.unusedSimpArgs false
/-- Bytes as whole numbers. -/
def ints (l : List UInt8) : List Int := l.map fun b => (b.toNat : Int)
theorem ints_app (a b : List UInt8) : ints (a ++ b) = ints a ++ ints b := by simp [ints]
theorem ints_length (a : List UInt8) : (ints a).length = a.length := by simp [ints]
theorem str_ints (l : List UInt8) : strOfNums (ints l) = ⟨l.toArray⟩ := by
  unfold strOfNums ints
  congr 1
  simp [List.map_map, Function.comp_def]
theorem mk_toList (l : List UInt8) : (⟨l.toArray⟩ : ByteArray).toList = l := by rw [toList_eq]
theorem mk_ext (s : ByteArray) (l : List UInt8) (h : s.toList = l) : s = ⟨l.toArray⟩ := ext _ _ (by rw [h, mk_toList])
theorem xor63 (a : Nat) (h : a < 18446744073709551616) : a ^^^ 9223372036854775808 = (a + 9223372036854775808) % 18446744073709551616 := by
  have e1 : (9223372036854775808 : Nat) = 2 ^ 63 := by decide
  have e2 : (18446744073709551616 : Nat) = 2 ^ 64 := by decide
  rw [e1, e2] at *
  apply Nat.eq_of_testBit_eq
  intro i
  rw [Nat.testBit_xor, Nat.testBit_two_pow, Nat.testBit_mod_two_pow, Nat.add_comm]
  rcases Nat.lt_trichotomy i 63 with h1 | h1 | h1
  · rw [Nat.testBit_two_pow_add_gt h1, decide_eq_false (by omega), decide_eq_true (by omega)]; simp
  · subst h1
    rw [Nat.testBit_two_pow_add_eq]; simp
  · have : a.testBit i = false := Nat.testBit_lt_two_pow (Nat.lt_of_lt_of_le h (Nat.pow_le_pow_right (n := 2) (i := 64) (j := i) (by decide) (show 64 ≤ i by omega)))
    rw [this, decide_eq_false (show ¬ 63 = i by omega), decide_eq_false (show ¬ i < 64 by omega)]; simp
theorem right_eq (a b : Int) (s : ByteArray) : lintelref01_Right.f a b s = some (rightV ⟨a, b, s⟩) := by
  unfold lintelref01_Right.f rightV
  have e : (s.toList == ([] : List UInt8)) = decide (s.toList = []) := by rw [Bool.eq_iff_iff]; simp
  by_cases h0 : a = 0
  · rw [if_pos h0, if_pos h0]
    by_cases h1 : b = 0
    · simp [h1, e]
    · simp [h1]
  · rw [if_neg h0, if_neg h0]
    by_cases h2 : a = 1
    · rw [if_pos h2, if_pos h2, e]
    · rw [if_neg h2, if_neg h2]
      by_cases h3 : a = 2
      · by_cases h1 : b = 0
        · by_cases h4 : s.size ≤ 64
          · have : (s.size : Int) ≤ 64 := by omega
            simp [h1, h3, h4, this]
          · have : ¬ (s.size : Int) ≤ 64 := by omega
            simp [h1, h3, h4, this]
        · simp [h1, h3]
      · simp [h3]
theorem check_eq (a b : Int) (s : ByteArray) : value_Check.f a b s = some (if rightV ⟨a, b, s⟩ = true then 0 else 10) := by
  unfold value_Check.f rightV
  by_cases h0 : a = 0
  · rw [if_pos h0, if_pos h0]
    by_cases h1 : b = 0
    · by_cases h2 : s.toList = []
      · simp [h1, h2]
      · simp [h1, h2]
    · simp [h1]
  · rw [if_neg h0, if_neg h0]
    by_cases h2 : a = 1
    · rw [if_pos h2, if_pos h2]
      by_cases h3 : s.toList = []
      · simp [h3]
      · simp [h3]
    · rw [if_neg h2, if_neg h2]
      by_cases h3 : a = 2
      · by_cases h1 : b = 0
        · by_cases h4 : s.size ≤ 64
          · have : (s.size : Int) ≤ 64 := by omega
            simp [h1, h3, h4, this]
          · have : ¬ (s.size : Int) ≤ 64 := by omega
            simp [h1, h3, h4, this]
        · simp [h1, h3]
      · simp [h3]
theorem xor_off (n : Int) (h : In64 n) : Go.bits .xor .u64 (IntKind.u64.wrap n) 9223372036854775808 = (off n : Int) := by
  unfold In64 off at *
  rw [IntKind.wrap_u64, u64_xor _ _ (by omega) (by omega) (by omega) (by omega), show (9223372036854775808 : Int).toNat = 9223372036854775808 from rfl, xor63 _ (by omega)]
  omega
theorem add_off (n : Int) (h : In64 n) : IntKind.u64.wrap (IntKind.u64.wrap n + 9223372036854775808) = (off n : Int) := by
  unfold In64 off at *
  rw [IntKind.wrap_u64, IntKind.wrap_u64]
  omega
theorem shr_be (u k : Nat) (hk : 8 * k ≤ 64) : (shr .u64 (u : Int) ((8 * k : Nat) : Int)) % 256 = ((UInt8.ofNat (u / 256 ^ k % 256)).toNat : Int) := by
  unfold shr
  have h64 : IntKind.u64.bits = 64 := rfl
  rw [h64, Int.toNat_natCast, Nat.min_eq_left hk, UInt8.toNat_ofNat']
  have e2 : (2 : Int) ^ (8 * k) = ((256 ^ k : Nat) : Int) := by
    rw [Int.pow_mul, Int.natCast_pow]
    rfl
  have e3 : ((u / 256 ^ k % 256 : Nat) : Int) = (u : Int) / ((256 ^ k : Nat) : Int) % 256 := by
    rw [Int.natCast_emod, Int.natCast_ediv]
    rfl
  rw [e2, ← e3, Nat.mod_mod]
theorem add_l0 (u : Nat) : ∀ (j k : Nat) (xs : List Int), j ≤ 8 → xs.length + j ≤ 100000 → j < k → keys_add.l0 k xs (u : Int) (8 * (j : Int) - 8) = some (xs ++ ints (be j u))
  | 0, k, xs, hj, hx, hk => by
    obtain ⟨k, rfl⟩ : ∃ m, k = m + 1 := ⟨k - 1, by omega⟩
    simp only [keys_add.l0]
    rw [if_neg (by omega)]
    simp [be, ints]
  | j + 1, k, xs, hj, hx, hk => by
    obtain ⟨k, rfl⟩ : ∃ m, k = m + 1 := ⟨k - 1, by omega⟩
    have e : (8 * ((j + 1 : Nat) : Int) - 8) = ((8 * j : Nat) : Int) := by omega
    have hw : wrap64 (((8 * j : Nat) : Int) - 8) = 8 * (j : Int) - 8 := by unfold wrap64; omega
    rw [e]
    simp only [keys_add.l0]
    rw [if_pos (by omega), if_pos (by omega), if_pos (by omega), shr_be u j (by omega), hw, add_l0 u j k _ (by omega) (by simp; omega) (by omega)]
    simp [be, ints]
theorem one_l0 (u : Nat) (a b : Int) (s : ByteArray) : ∀ (j k : Nat) (xs : List Int), j ≤ 8 → xs.length + j ≤ 100000 → lintelref02_One.l0 (k + j + 1) xs (u : Int) (8 - (j : Int)) a b s = lintelref02_One.j1 k (xs ++ ints (be j u)) a b s
  | 0, k, xs, hj, hx => by
    simp only [lintelref02_One.l0]
    rw [if_neg (by omega)]
    simp [be, ints]
  | j + 1, k, xs, hj, hx => by
    have e : IntKind.u64.wrap (wrap64 (56 - wrap64 (8 * (8 - ((j + 1 : Nat) : Int))))) = ((8 * j : Nat) : Int) := by
      rw [IntKind.wrap_u64]; unfold wrap64; omega
    have hw : wrap64 (8 - ((j + 1 : Nat) : Int) + 1) = 8 - (j : Int) := by unfold wrap64; omega
    have ih := fun xs hx => one_l0 u a b s j k xs (by omega) hx
    rw [show k + (j + 1) + 1 = (k + j + 1) + 1 by omega]
    generalize k + j + 1 = m at ih
    simp only [lintelref02_One.l0]
    rw [if_pos (by omega), e, if_pos (by omega), if_pos (by omega), shr_be u j (by omega), hw, ih _ (by simp; omega)]
    simp [be, ints]
theorem add_l1 (a b : Int) (s : ByteArray) (hs : s.size ≤ 64) : ∀ (d i k : Nat) (xs : List Int), s.size - i = d → i ≤ s.size → xs.length + 2 * d ≤ 100000 → d < k →
    keys_add.l1 k xs (s.size : Int) (i : Int) a b s = some (xs ++ ints (esc (s.toList.drop i))) := by
  intro d
  induction d with
  | zero =>
    intro i k xs hd hi hx hk
    obtain ⟨k, rfl⟩ : ∃ m, k = m + 1 := ⟨k - 1, by omega⟩
    simp only [keys_add.l1]
    rw [if_neg (by omega), drop_end s i (by omega)]
    simp only [Option.bind_some]
    rw [if_pos (by simp; omega)]
    rfl
  | succ d ih =>
    intro i k xs hd hi hx hk
    obtain ⟨k, rfl⟩ : ∃ m, k = m + 1 := ⟨k - 1, by omega⟩
    have hlt : i < s.size := by omega
    simp only [keys_add.l1]
    rw [if_pos (by omega), if_pos (by omega), if_pos (by omega), if_pos (by omega), bt_nat s i hlt, wrap_nat i s.size hlt (by omega), drop_at s i hlt]
    simp only [Option.bind_some, esc]
    by_cases h0 : s[i] = 0
    · rw [if_pos (by rw [h0]; rfl), if_pos (by simp; omega), if_pos h0, h0, ih (i + 1) k _ (by omega) (by omega) (by simp; omega) (by omega)]
      simp [ints]
    · have : ¬ (s[i].toNat : Int) = 0 := fun h => h0 (UInt8.toNat_inj.1 (by show s[i].toNat = 0; omega))
      rw [if_neg this, if_neg h0, ih (i + 1) k _ (by omega) (by omega) (by simp; omega) (by omega)]
      simp [ints]
theorem one_l1 (a b : Int) (s : ByteArray) (hs : s.size ≤ 64) : ∀ (d i k : Nat) (xs : List Int), s.size - i = d → i ≤ s.size → xs.length + 2 * d ≤ 100000 → d < k →
    lintelref02_One.l1 k xs (i : Int) a b s = some (strOfNums (xs ++ ints (esc (s.toList.drop i)))) := by
  intro d
  induction d with
  | zero =>
    intro i k xs hd hi hx hk
    obtain ⟨k, rfl⟩ : ∃ m, k = m + 1 := ⟨k - 1, by omega⟩
    simp only [lintelref02_One.l1]
    rw [if_neg (by omega), drop_end s i (by omega)]
    simp only [Option.bind_some]
    rw [if_pos (by simp; omega)]
    rfl
  | succ d ih =>
    intro i k xs hd hi hx hk
    obtain ⟨k, rfl⟩ : ∃ m, k = m + 1 := ⟨k - 1, by omega⟩
    have hlt : i < s.size := by omega
    simp only [lintelref02_One.l1]
    rw [if_pos (by omega), if_pos (by omega), if_pos (by omega), bt_nat s i hlt, wrap_nat i s.size hlt (by omega), drop_at s i hlt]
    simp only [Option.bind_some, esc]
    by_cases h0 : s[i] = 0
    · rw [if_pos (by rw [h0]; rfl), if_pos (by simp; omega), if_pos h0, h0, ih (i + 1) k _ (by omega) (by omega) (by simp; omega) (by omega)]
      simp [ints]
    · have : ¬ (s[i].toNat : Int) = 0 := fun h => h0 (UInt8.toNat_inj.1 (by show s[i].toNat = 0; omega))
      rw [if_neg this, if_neg h0, ih (i + 1) k _ (by omega) (by omega) (by simp; omega) (by omega)]
      simp [ints]
theorem head_byte (v : V) (h : rightV v = true) : wrap64 (1 + v.f0) % 256 = ((UInt8.ofNat (v.f0 + 1).toNat).toNat : Int) := by
  have := right_kind h
  rw [UInt8.toNat_ofNat']
  unfold wrap64
  omega
theorem head_byte' (v : V) (h : rightV v = true) : wrap64 (v.f0 + 1) % 256 = ((UInt8.ofNat (v.f0 + 1).toNat).toNat : Int) := by
  rw [← head_byte v h, Int.add_comm]
theorem add_eq (v : V) (h : rightV v = true) (hn : In64 v.f1) (k : Nat) (xs : List Int) (hk : 100 ≤ k) (hx : xs.length ≤ 90000) : keys_add.f k xs v.f0 v.f1 v.f2 = some (xs ++ ints (enc v)) := by
  unfold keys_add.f
  rw [if_pos (by omega), head_byte v h]
  simp only [Option.bind_some]
  unfold enc tail
  rcases right_kind h with k0 | k1 | k2
  · rw [if_neg (by omega), if_neg (by omega), if_neg (by omega), if_neg (by omega)]
    simp [ints]
  · rw [if_pos k1, if_pos k1, xor_off _ hn]
    have := add_l0 (off v.f1) 8 k (xs ++ [((UInt8.ofNat (v.f0 + 1).toNat).toNat : Int)]) (by omega) (by simp; omega) (by omega)
    rw [show (8 * ((8 : Nat) : Int) - 8) = 56 by omega] at this
    rw [this]
    simp [ints]
  · have hs := (right_text h k2).2
    rw [if_neg (by omega), if_pos k2, if_neg (by omega), if_pos k2]
    have := add_l1 v.f0 v.f1 v.f2 hs v.f2.size 0 k (xs ++ [((UInt8.ofNat (v.f0 + 1).toNat).toNat : Int)]) (by omega) (by omega) (by simp; omega) (by omega)
    rw [show ((0 : Nat) : Int) = 0 from rfl] at this
    rw [this]
    simp [ints]
theorem one_eq (v : V) (h : rightV v = true) (hn : In64 v.f1) (k : Nat) (hk : 100 ≤ k) : lintelref02_One.f k v.f0 v.f1 v.f2 = some ⟨(enc v).toArray⟩ := by
  unfold lintelref02_One.f
  rw [head_byte' v h]
  simp only [Option.bind_some]
  rw [← str_ints]
  unfold enc tail
  rcases right_kind h with k0 | k1 | k2
  · obtain ⟨k, rfl⟩ : ∃ m, k = m + 1 := ⟨k - 1, by omega⟩
    rw [if_neg (by omega), if_neg (by omega), if_neg (by omega)]
    simp only [lintelref02_One.j1]
    rw [if_neg (by omega)]
    rfl
  · rw [if_pos k1, if_pos k1, add_off _ hn]
    obtain ⟨k, rfl⟩ : ∃ m, k = m + 1 + 8 + 1 := ⟨k - 10, by omega⟩
    have := one_l0 (off v.f1) v.f0 v.f1 v.f2 8 (k + 1) [((UInt8.ofNat (v.f0 + 1).toNat).toNat : Int)] (by omega) (by simp)
    rw [show (8 : Int) - ((8 : Nat) : Int) = 0 by omega] at this
    rw [this]
    simp only [lintelref02_One.j1]
    rw [if_neg (by omega)]
    rfl
  · have hs := (right_text h k2).2
    obtain ⟨k, rfl⟩ : ∃ m, k = m + 1 := ⟨k - 1, by omega⟩
    rw [if_neg (by omega), if_neg (by omega), if_pos k2]
    simp only [lintelref02_One.j1]
    rw [if_pos k2]
    have := one_l1 v.f0 v.f1 v.f2 hs v.f2.size 0 k [((UInt8.ofNat (v.f0 + 1).toNat).toNat : Int)] (by omega) (by omega) (by simp; omega) (by omega)
    rw [show ((0 : Nat) : Int) = 0 from rfl] at this
    rw [this]
    rfl
end Go.Proofs.Ytaedejjbchpbfaa.Keys
