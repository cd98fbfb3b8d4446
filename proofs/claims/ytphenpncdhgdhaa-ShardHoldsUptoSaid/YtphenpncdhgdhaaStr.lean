/- Texts as lists of bytes, and how they stand to one another. Plain Lean, no program. -/
import Derived.Lib.Strings
import Derived.Sort.Walk0
namespace Go.Proofs.Ytphenpncdhgdhaa.Str
set_option linter.unusedVariables false
set_option linter.unusedSimpArgs false
/-- How two lists of bytes stand: -1, 0, 1. -/
def cmpL : List UInt8 → List UInt8 → Int
  | [], [] => 0
  | [], _ :: _ => -1
  | _ :: _, [] => 1
  | x :: xs, y :: ys => if x < y then -1 else if y < x then 1 else cmpL xs ys
theorem cmpL_self : ∀ a, cmpL a a = 0
  | [] => rfl
  | x :: xs => by
    have h : ¬ x < x := UInt8.lt_irrefl x
    simp only [cmpL, if_neg h, cmpL_self xs]
theorem cmpL_swap : ∀ a b, cmpL b a = - cmpL a b
  | [], [] => rfl
  | [], _ :: _ => rfl
  | _ :: _, [] => rfl
  | x :: xs, y :: ys => by
    simp only [cmpL]
    by_cases h1 : x < y
    · have h2 : ¬ y < x := fun h => UInt8.lt_irrefl _ (UInt8.lt_trans h h1)
      simp [h1, h2]
    · by_cases h2 : y < x
      · simp [h1, h2]
      · simp [h1, h2, cmpL_swap xs ys]
theorem cmpL_zero : ∀ a b, cmpL a b = 0 → a = b
  | [], [], _ => rfl
  | [], _ :: _, h => by simp [cmpL] at h
  | _ :: _, [], h => by simp [cmpL] at h
  | x :: xs, y :: ys, h => by
    simp only [cmpL] at h
    by_cases h1 : x < y
    · simp [h1] at h
    · by_cases h2 : y < x
      · simp [h1, h2] at h
      · simp only [h1, h2, if_false] at h
        rw [cmpL_zero xs ys h, UInt8.le_antisymm (UInt8.not_lt.1 h2) (UInt8.not_lt.1 h1)]
theorem cmpL_range : ∀ a b, -1 ≤ cmpL a b ∧ cmpL a b ≤ 1
  | [], [] => by simp [cmpL]
  | [], _ :: _ => by simp [cmpL]
  | _ :: _, [] => by simp [cmpL]
  | x :: xs, y :: ys => by
    simp only [cmpL]
    have := cmpL_range xs ys
    repeat' split
    all_goals omega
theorem cmpL_trans : ∀ a b c, cmpL a b ≤ 0 → cmpL b c ≤ 0 → cmpL a c ≤ 0 ∧ (cmpL a c = 0 → cmpL a b = 0 ∧ cmpL b c = 0)
  | [], [], [], _, _ => by simp [cmpL]
  | [], [], _ :: _, _, _ => by simp [cmpL]
  | [], _ :: _, [], _, h => by simp [cmpL] at h
  | [], _ :: _, _ :: _, _, _ => by simp [cmpL]
  | _ :: _, [], _, h, _ => by simp [cmpL] at h
  | _ :: _, _ :: _, [], _, h => by simp [cmpL] at h
  | x :: xs, y :: ys, z :: zs, h1, h2 => by
    simp only [cmpL] at h1 h2 ⊢
    by_cases a1 : x < y
    · by_cases a2 : y < z
      · have := UInt8.lt_trans a1 a2
        simp [this]
      · by_cases a3 : z < y
        · simp [a2, a3] at h2
        · have : y = z := UInt8.le_antisymm (UInt8.not_lt.1 a3) (UInt8.not_lt.1 a2)
          subst this
          simp [a1]
    · by_cases b1 : y < x
      · simp [a1, b1] at h1
      · have : x = y := UInt8.le_antisymm (UInt8.not_lt.1 b1) (UInt8.not_lt.1 a1)
        subst this
        have hx : ¬ x < x := UInt8.lt_irrefl x
        by_cases a2 : x < z
        · simp [a2]
        · by_cases a3 : z < x
          · simp [a2, a3] at h2
          · simp only [hx, a2, a3, if_false] at h1 h2 ⊢
            exact cmpL_trans xs ys zs h1 h2
theorem lt_cmpL : ∀ a b : List UInt8, a < b ↔ cmpL a b < 0
  | [], [] => by simp [cmpL]
  | [], y :: ys => by simp [cmpL]
  | x :: xs, [] => by simp [cmpL]
  | x :: xs, y :: ys => by
    rw [List.cons_lt_cons_iff, lt_cmpL xs ys]
    simp only [cmpL]
    by_cases h1 : x < y
    · simp [h1]
    · by_cases h2 : y < x
      · have : x ≠ y := fun e => by subst e; exact UInt8.lt_irrefl _ h2
        simp [h1, h2, this]
      · have : x = y := UInt8.le_antisymm (UInt8.not_lt.1 h2) (UInt8.not_lt.1 h1)
        simp [h1, h2, this]
/-- Two texts. -/
def cmpS (a b : ByteArray) : Int := cmpL a.toList b.toList
theorem bytesLess_cmp (a b : List UInt8) : Op.bytesLess a b = decide (cmpL a b < 0) := by
  rw [Proofs.bytesLess_eq]
  exact decide_eq_decide.2 (lt_cmpL a b)
theorem beq_cmp (a b : List UInt8) : (a == b) = decide (cmpL a b = 0) := by
  rw [Bool.eq_iff_iff]
  simp only [beq_iff_eq, decide_eq_true_eq]
  exact ⟨fun h => by rw [h]; exact cmpL_self b, cmpL_zero a b⟩
theorem leq_cmp (a b : List UInt8) : (Op.bytesLess a b || a == b) = decide (cmpL a b ≤ 0) := by
  rw [bytesLess_cmp, beq_cmp, Bool.eq_iff_iff]
  simp only [Bool.or_eq_true, decide_eq_true_eq]
  omega
theorem toList_eq (a : ByteArray) : a.toList = a.data.toList := Lib.toList_data a
theorem ext (a b : ByteArray) (h : a.toList = b.toList) : a = b := by
  rw [toList_eq, toList_eq] at h
  cases a with | mk a => cases b with | mk b => simp only [Array.toList_inj] at h; rw [h]
theorem cmpS_self (a : ByteArray) : cmpS a a = 0 := cmpL_self _
theorem cmpS_swap (a b : ByteArray) : cmpS b a = - cmpS a b := cmpL_swap _ _
theorem cmpS_zero (a b : ByteArray) (h : cmpS a b = 0) : a = b := ext _ _ (cmpL_zero _ _ h)
theorem cmpS_range (a b : ByteArray) : -1 ≤ cmpS a b ∧ cmpS a b ≤ 1 := cmpL_range _ _
theorem cmpS_trans (a b c : ByteArray) (h1 : cmpS a b ≤ 0) (h2 : cmpS b c ≤ 0) : cmpS a c ≤ 0 ∧ (cmpS a c = 0 → cmpS a b = 0 ∧ cmpS b c = 0) := cmpL_trans _ _ _ h1 h2
theorem cmpS_empty (a : ByteArray) (h : cmpS a ByteArray.empty ≤ 0) : a = ByteArray.empty := by
  apply ext
  have e : (ByteArray.empty).toList = [] := by rw [toList_eq]; rfl
  unfold cmpS at h
  rw [e] at h ⊢
  cases ha : a.toList with
  | nil => rfl
  | cons x xs => rw [ha] at h; simp [cmpL] at h
end Go.Proofs.Ytphenpncdhgdhaa.Str
