/- Layer 1, plain: a text between quotes and back; a number's digits and back. No program in this text. -/
import Derived.Lib.ParseIntBCases
import Derived.Lib.Replace
import Derived.Lib.ItoaLen
import Derived.Lib.Strings
namespace Go.Proofs.YtkjfecpfjfkpnaaDoor.Val
open Go.Lib
set_option linter.unusedVariables false
set_option linter.unusedSimpArgs false
/-- Each quote doubled. -/
def dbl : List UInt8 → List UInt8
  | [] => []
  | c :: r => if c = 39 then 39 :: 39 :: dbl r else c :: dbl r
theorem dbl_snoc : ∀ (t : List UInt8) (c : UInt8), dbl (t ++ [c]) = dbl t ++ (if c = 39 then [39, 39] else [c])
  | [], c => by
    simp only [List.nil_append, dbl]
  | d :: t, c => by
    simp only [List.cons_append, dbl, dbl_snoc t c]
    split <;> simp
theorem dbl_le : ∀ (t : List UInt8), (dbl t).length ≤ 2 * t.length
  | [] => Nat.le_refl _
  | c :: r => by
    have := dbl_le r
    unfold dbl
    split <;> simp <;> omega
theorem le_dbl : ∀ (t : List UInt8), t.length ≤ (dbl t).length
  | [] => Nat.le_refl _
  | c :: r => by
    have := le_dbl r
    unfold dbl
    split <;> simp <;> omega
/-- Each doubled quote single; none where a quote stands alone. -/
def unq : List UInt8 → Option (List UInt8)
  | [] => some []
  | [c] => if c = 39 then none else some [c]
  | c :: d :: r => if c = 39 then (if d = 39 then (unq r).map (39 :: ·) else none) else (unq (d :: r)).map (c :: ·)
theorem unq_dbl : ∀ (t : List UInt8), unq (dbl t) = some t
  | [] => rfl
  | c :: r => by
    have ih := unq_dbl r
    by_cases h : c = 39
    · subst h
      simp only [dbl, if_true, unq, ih]
      rfl
    · simp only [dbl, if_neg h]
      cases hd : dbl r with
      | nil =>
        rw [hd] at ih
        have : r = [] := by simpa [unq] using ih.symm
        simp [unq, h, this]
      | cons d m =>
        rw [hd] at ih
        simp only [unq, if_neg h]
        rw [ih]
        rfl
theorem dbl_unq : ∀ (m t : List UInt8), unq m = some t → m = dbl t
  | [], t, h => by
    obtain rfl : [] = t := by simpa [unq] using h
    rfl
  | [c], t, h => by
    unfold unq at h
    split at h
    · cases h
    · rename_i hc
      obtain rfl : [c] = t := by simpa using h
      simp [dbl, hc]
  | c :: d :: r, t, h => by
    unfold unq at h
    by_cases hc : c = 39
    · rw [if_pos hc] at h
      by_cases hd : d = 39
      · rw [if_pos hd] at h
        cases hu : unq r with
        | none => rw [hu] at h; cases h
        | some t' =>
          rw [hu] at h
          obtain rfl : 39 :: t' = t := by simpa using h
          rw [dbl_unq r t' hu, hc, hd]
          simp [dbl]
      · rw [if_neg hd] at h; cases h
    · rw [if_neg hc] at h
      cases hu : unq (d :: r) with
      | none => rw [hu] at h; cases h
      | some t' =>
        rw [hu] at h
        obtain rfl : c :: t' = t := by simpa using h
        rw [dbl_unq (d :: r) t' hu]
        simp [dbl, hc]
/-- A text as it is written. -/
def quote (t : List UInt8) : List UInt8 := 39 :: (dbl t ++ [39])
theorem quote_inj {t u : List UInt8} (h : quote t = quote u) : t = u := by
  have h1 : dbl t = dbl u := by simpa [quote] using h
  have := unq_dbl t
  rw [h1, unq_dbl] at this
  exact (Option.some.inj this).symm
theorem trim_dbl (t : List UInt8) : trimSuffix (dbl t ++ [39]) [39] = dbl t := by
  have h : hasSuffix (dbl t ++ [39]) [39] = true := by
    unfold hasSuffix
    rw [List.isSuffixOf_iff_suffix]
    exact ⟨_, rfl⟩
  rw [trimSuffix, if_pos h]
  simp
theorem index_skip (c : UInt8) (hc : c ≠ 39) (m : List UInt8) : index (c :: m) [39, 39] = if index m [39, 39] = -1 then -1 else index m [39, 39] + 1 := by
  have hp : [39, 39].isPrefixOf (c :: m) = false := by
    simp only [List.isPrefixOf]
    have : ((39 : UInt8) == c) = false := by simpa using fun e => hc e.symm
    rw [this]; rfl
  rw [index, hp]
  simp
theorem index_two (m : List UInt8) : index (39 :: 39 :: m) [39, 39] = 0 := by
  have hp : [39, 39].isPrefixOf ((39 : UInt8) :: 39 :: m) = true := by simp [List.isPrefixOf]
  rw [index, hp]; rfl
theorem replaceK_skip (c : UInt8) (hc : c ≠ 39) (m : List UInt8) : ∀ k, replaceK [39, 39] [39] k (c :: m) = c :: replaceK [39, 39] [39] k m
  | 0 => rfl
  | k + 1 => by
    have hg := index_ge m [39, 39]
    simp only [replaceK, index_skip c hc m]
    by_cases h : index m [39, 39] = -1
    · simp [h]
    · have h0 : (index m [39, 39] == -1) = false := by simpa using h
      have h1 : (index m [39, 39] + 1 == -1) = false := by simp; omega
      obtain ⟨i, hi⟩ : ∃ i : Nat, index m [39, 39] = i := ⟨(index m [39, 39]).toNat, by omega⟩
      rw [if_neg h, h1, h0, hi]
      have e1 : ((i : Int) + 1).toNat = i + 1 := by omega
      simp [e1]
theorem replaceK_two (m : List UInt8) (k : Nat) : replaceK [39, 39] [39] (k + 1) (39 :: 39 :: m) = 39 :: replaceK [39, 39] [39] k m := by
  simp [replaceK, index_two]
def nq : List UInt8 → Nat
  | [] => 0
  | c :: r => if c = 39 then nq r + 1 else nq r
theorem replaceK_dbl : ∀ (t : List UInt8) (k : Nat), nq t ≤ k → replaceK [39, 39] [39] k (dbl t) = t
  | [], 0, _ => rfl
  | [], k + 1, _ => by simp [dbl, replaceK, index]
  | c :: r, k, h => by
    by_cases hc : c = 39
    · subst hc
      simp only [nq, if_true] at h
      obtain ⟨k, rfl⟩ : ∃ j, k = j + 1 := ⟨k - 1, by omega⟩
      simp only [dbl, if_true]
      rw [replaceK_two, replaceK_dbl r k (by omega)]
    · simp only [nq, if_neg hc] at h
      simp only [dbl, if_neg hc]
      rw [replaceK_skip c hc, replaceK_dbl r k h]
theorem countFrom_skip (c : UInt8) (hc : c ≠ 39) (m : List UInt8) : ∀ k, countFrom [39, 39] k (c :: m) = countFrom [39, 39] k m
  | 0 => rfl
  | k + 1 => by
    have hg := index_ge m [39, 39]
    simp only [countFrom, index_skip c hc m]
    by_cases h : index m [39, 39] = -1
    · simp [h]
    · have h0 : (index m [39, 39] == -1) = false := by simpa using h
      have h1 : (index m [39, 39] + 1 == -1) = false := by simp; omega
      obtain ⟨i, hi⟩ : ∃ i : Nat, index m [39, 39] = i := ⟨(index m [39, 39]).toNat, by omega⟩
      rw [if_neg h, h1, h0, hi]
      have e1 : ((i : Int) + 1).toNat = i + 1 := by omega
      have e2 : i + 1 + 2 = (i + 2) + 1 := by omega
      simp only [e1, Bool.false_eq_true, if_false, List.length_cons, List.length_nil, Nat.zero_add, e2, List.drop_succ_cons, Int.toNat_natCast, Nat.reduceAdd]
theorem countFrom_dbl : ∀ (t : List UInt8) (k : Nat), (dbl t).length < k → nq t ≤ countFrom [39, 39] k (dbl t)
  | [], k, _ => Nat.zero_le _
  | c :: r, k, h => by
    by_cases hc : c = 39
    · subst hc
      simp only [dbl, if_true, List.length_cons] at h ⊢
      obtain ⟨k, rfl⟩ : ∃ j, k = j + 1 := ⟨k - 1, by omega⟩
      have := countFrom_dbl r k (by omega)
      simp only [nq, if_true, countFrom, index_two]
      simp
      omega
    · simp only [dbl, if_neg hc, List.length_cons] at h ⊢
      rw [countFrom_skip c hc]
      simp only [nq, if_neg hc]
      exact countFrom_dbl r k (by omega)
theorem replaceAll_dbl (t : List UInt8) : replaceAll (dbl t) [39, 39] [39] = t := by
  have h0 : (([39, 39] : List UInt8) == [39]) = false := by decide
  rw [replaceAll, replace, h0]
  refine replaceK_dbl t _ ?_
  unfold replaceNum
  rw [if_pos (by left; decide)]
  exact countFrom_dbl t _ (by omega)
end Go.Proofs.YtkjfecpfjfkpnaaDoor.Val
