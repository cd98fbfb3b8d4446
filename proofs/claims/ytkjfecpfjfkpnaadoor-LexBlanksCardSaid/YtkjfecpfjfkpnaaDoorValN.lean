/- Layer 1, plain: numbers and their digits. No program in this text. -/
import Derived.Lib.ParseIntBCases
import Derived.Lib.ItoaLen
namespace Go.Proofs.YtkjfecpfjfkpnaaDoor.Val
open Go.Lib
set_option linter.unusedVariables false
set_option linter.unusedSimpArgs false
theorem parseUintM_snoc (M : Nat) : ∀ (l : List UInt8) (acc a : Nat) (c : UInt8), parseUintM M acc l = .ok a → parseUintM M acc (l ++ [c]) = parseUintM M a [c]
  | [], acc, a, c, h => by
    obtain rfl : acc = a := by simpa [parseUintM] using h
    rfl
  | d :: r, acc, a, c, h => by
    rw [List.cons_append]
    rw [parseUintM] at h ⊢
    split at h
    · split at h
      · cases h
      · split at h
        · cases h
        · rename_i h1 h2 h3
          rw [if_pos h1, if_neg h2, if_neg h3]
          exact parseUintM_snoc M r _ a c h
    · cases h
theorem digit_toNat (d : Nat) (h : d < 10) : (UInt8.ofNat (48 + d)).toNat = 48 + d := by
  simp [UInt8.toNat_ofNat]; omega
theorem parse_dec : ∀ (k u : Nat), u < k → u ≤ 18446744073709551615 → parseUintM 18446744073709551615 0 (decDigits u) = .ok u
  | 0, u, h, _ => by omega
  | k + 1, u, h, hu => by
    rw [decDigits]
    split
    · rename_i h1
      rw [parseUintM, digit_toNat u h1, if_pos (by omega), if_neg (by omega), if_neg (by omega)]
      simp [parseUintM]
    · rename_i h1
      rw [parseUintM_snoc _ _ _ (u / 10) _ (parse_dec k (u / 10) (by omega) (by omega))]
      rw [parseUintM, digit_toNat (u % 10) (by omega), if_pos (by omega), if_neg (by omega), if_neg (by omega)]
      simp only [parseUintM]
      congr 1
      omega
theorem decDigits_ne (u : Nat) : decDigits u ≠ [] := by
  intro h
  have := decDigits_length u
  rw [h] at this
  have := nDigits_pos u
  simp at *
  omega
/-- Is a byte a digit? -/
def isDig (c : UInt8) : Bool := 48 ≤ c.toNat && c.toNat ≤ 57
theorem dec_digits : ∀ (k u : Nat), u < k → ∀ c ∈ decDigits u, isDig c = true
  | 0, u, h => by omega
  | k + 1, u, h => by
    intro c hc
    rw [decDigits] at hc
    split at hc
    · rename_i h1
      obtain rfl := List.mem_singleton.1 hc
      simp [isDig, digit_toNat u h1]; omega
    · rename_i h1
      rcases List.mem_append.1 hc with hc | hc
      · exact dec_digits k (u / 10) (by omega) c hc
      · obtain rfl := List.mem_singleton.1 hc
        simp [isDig, digit_toNat (u % 10) (by omega)]; omega
/-- The number of digits. -/
def val (l : List UInt8) : Nat := l.foldl (fun n c => n * 10 + (c.toNat - 48)) 0
theorem val_snoc (l : List UInt8) (c : UInt8) : val (l ++ [c]) = val l * 10 + (c.toNat - 48) := by simp [val]
theorem val_dec : ∀ (k u : Nat), u < k → val (decDigits u) = u
  | 0, u, h => by omega
  | k + 1, u, h => by
    rw [decDigits]
    split
    · rename_i h1
      simp only [val, List.foldl_cons, List.foldl_nil, digit_toNat u h1]
      omega
    · rw [val_snoc, val_dec k (u / 10) (by omega), digit_toNat (u % 10) (by omega)]
      omega
theorem dec_head : ∀ (k u : Nat), u < k → 0 < u → ∀ c, (decDigits u).head? = some c → c.toNat ≠ 48
  | 0, u, h, _ => by omega
  | k + 1, u, h, hp => by
    intro c hc
    rw [decDigits] at hc
    split at hc
    · rename_i h1
      obtain rfl : UInt8.ofNat (48 + u) = c := by simpa using hc
      rw [digit_toNat u h1]; omega
    · rename_i h1
      have hne := decDigits_ne (u / 10)
      cases hd : decDigits (u / 10) with
      | nil => exact absurd hd hne
      | cons x m =>
        rw [hd] at hc
        exact dec_head k (u / 10) (by omega) (by omega) c (by rw [hd]; simpa using hc)
/-- A list of digits that begins with no 0, or is 0 alone, is its number's. -/
theorem canon : ∀ (k : Nat) (l : List UInt8), l.length = k → l ≠ [] → (∀ c ∈ l, isDig c = true) → (l.length = 1 ∨ ∀ c, l.head? = some c → c.toNat ≠ 48) → l = decDigits (val l) ∧ ((∀ c, l.head? = some c → c.toNat ≠ 48) → 0 < val l)
  | 0, l, h, hne, _, _ => by exact absurd (List.length_eq_zero_iff.1 h) hne
  | k + 1, l, h, hne, hd, hc => by
    obtain ⟨m, d, rfl⟩ : ∃ m d, l = m ++ [d] := ⟨l.dropLast, l.getLast hne, (List.dropLast_concat_getLast hne).symm⟩
    have hdd : isDig d = true := hd d (by simp)
    have hd1 : 48 ≤ d.toNat ∧ d.toNat ≤ 57 := by simpa [isDig] using hdd
    have hod : UInt8.ofNat (48 + (d.toNat - 48)) = d := by
      have : 48 + (d.toNat - 48) = d.toNat := by omega
      rw [this]; simp
    by_cases hm : m = []
    · subst hm
      have hv : val ([] ++ [d]) = d.toNat - 48 := by simp [val]
      rw [hv]
      refine ⟨?_, fun hh => ?_⟩
      · rw [decDigits, dif_pos (by omega), hod]; rfl
      · have := hh d rfl
        omega
    · have hl : (m ++ [d]).length ≠ 1 := by
        have := List.length_pos_iff.2 hm
        simp; omega
      have hh := hc.resolve_left hl
      have hmh : ∀ c, m.head? = some c → c.toNat ≠ 48 := by
        intro c hcm
        refine hh c ?_
        cases m with
        | nil => exact absurd rfl hm
        | cons x r => simpa using hcm
      obtain ⟨h1, h2⟩ := canon k m (by simpa using h) hm (fun c hcm => hd c (by simp [hcm])) (.inr hmh)
      have hp := h2 hmh
      rw [val_snoc]
      refine ⟨?_, fun _ => by omega⟩
      have e1 : (val m * 10 + (d.toNat - 48)) / 10 = val m := by omega
      have e2 : (val m * 10 + (d.toNat - 48)) % 10 = d.toNat - 48 := by omega
      rw [decDigits, dif_neg (by omega), e1, e2, hod, ← h1]
theorem val_lt : ∀ (k : Nat) (l : List UInt8), l.length = k → (∀ c ∈ l, isDig c = true) → val l < 10 ^ k
  | 0, l, h, _ => by
    obtain rfl := List.length_eq_zero_iff.1 h
    simp [val]
  | k + 1, l, h, hd => by
    have hne : l ≠ [] := fun e => by rw [e] at h; simp at h
    obtain ⟨m, d, rfl⟩ : ∃ m d, l = m ++ [d] := ⟨l.dropLast, l.getLast hne, (List.dropLast_concat_getLast hne).symm⟩
    have h1 := val_lt k m (by simpa using h) (fun c hc => hd c (by simp [hc]))
    have hdd : isDig d = true := hd d (by simp)
    have hd1 : 48 ≤ d.toNat ∧ d.toNat ≤ 57 := by simpa [isDig] using hdd
    rw [val_snoc, Nat.pow_succ]
    omega
theorem dec_len (u : Nat) (h : u < 10000000000000000000) : (decDigits u).length ≤ 19 := by
  rw [decDigits_length]
  by_cases hh : nDigits u ≤ 19
  · exact hh
  · exfalso
    have hp : ∀ (k : Nat) (u : Nat), k < nDigits u → 10 ^ k ≤ u ∨ k = 0 := by
      intro k
      induction k with
      | zero => intro u _; exact .inr rfl
      | succ k ih =>
        intro u hk
        left
        by_cases h1 : u < 10
        · rw [nDigits_small h1] at hk; omega
        · rw [nDigits_big h1] at hk
          rcases ih (u / 10) (by omega) with h2 | h2
          · rw [Nat.pow_succ]; omega
          · subst h2; simp; omega
    rcases hp 19 u (by omega) with h1 | h1
    · have : (10 : Nat) ^ 19 = 10000000000000000000 := by decide
      omega
    · omega
theorem parseInt_itoa (n : Int) (h0 : -9223372036854775808 ≤ n) (h1 : n ≤ 9223372036854775807) : parseIntB 64 (itoa n) = .ok n := by
  have hB : ∀ u, u ≤ 18446744073709551615 → parseUintB 64 (decDigits u) = .ok u := fun u hu => by
    rw [parseUintB, if_neg (decDigits_ne u)]
    exact parse_dec (u + 1) u (by omega) hu
  unfold itoa
  split
  · rw [parseIntB_minus, hB n.natAbs (by omega)]
    simp only [signedC]
    rw [if_neg (by omega)]
    congr 1
    omega
  · have hne := decDigits_ne n.toNat
    cases hd : decDigits n.toNat with
    | nil => exact absurd hd hne
    | cons c r =>
      have hc : isDig c = true := dec_digits (n.toNat + 1) n.toNat (by omega) c (by rw [hd]; simp)
      have hc1 : 48 ≤ c.toNat ∧ c.toNat ≤ 57 := by simpa [isDig] using hc
      rw [parseIntB_plain _ _ _ (by omega) (by omega), ← hd, hB n.toNat (by omega)]
      simp only [signlessC]
      rw [if_neg (by omega)]
      congr 1
      omega
end Go.Proofs.YtkjfecpfjfkpnaaDoor.Val
