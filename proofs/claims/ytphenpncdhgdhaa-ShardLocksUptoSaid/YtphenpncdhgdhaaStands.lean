/- The document's comparison of two texts is cmpS. -/
import Derived.Test.YtphenpncdhgdhaaPRefx1
import Derived.Test.YtphenpncdhgdhaaStr
namespace Go.Proofs.Ytphenpncdhgdhaa.Stands
open Go.RowKit Go.Proofs.YtphenpncdhgdhaaW.PrintWords Go.Proofs.YtphenpncdhgdhaaW.PrintLast Go.Proofs.Ytphenpncdhgdhaa.Str Go.Proofs.Ytphenpncdhgdhaa.PRef
set_option linter.unusedVariables false
set_option linter.unusedSimpArgs false
theorem size_toList (a : ByteArray) : a.toList.length = a.size := by rw [toList_eq]; rfl
theorem drop_at (a : ByteArray) (i : Nat) (h : i < a.size) : a.toList.drop i = a[i] :: a.toList.drop (i + 1) := by
  have hl : i < a.toList.length := by rw [size_toList]; exact h
  rw [List.drop_eq_getElem_cons hl]
  congr 1
  simp only [toList_eq]
  rfl
theorem drop_end (a : ByteArray) (i : Nat) (h : a.size ≤ i) : a.toList.drop i = [] := List.drop_eq_nil_of_le (by rw [size_toList]; exact h)
theorem bt_nat (a : ByteArray) (i : Nat) (h : i < a.size) : bt a (i : Int) = (a[i].toNat : Int) := by
  unfold bt
  rw [dif_pos (by simpa using h)]
  rfl
theorem wrap_nat (i n : Nat) (hi : i < n) (hn : n ≤ 140737488355328) : wrap64 ((i : Int) + 1) = ((i + 1 : Nat) : Int) := by
  unfold wrap64
  omega
theorem stands_end (a b : ByteArray) (i k : Nat) (hi : ¬ (i < a.size ∧ i < b.size)) (hk : 2 ≤ k) : lintelref01_Stands.l0 k a b (i : Int) = some (if (a.size : Int) < (b.size : Int) then -1 else if (a.size : Int) > (b.size : Int) then 1 else 0) := by
  obtain ⟨k, rfl⟩ : ∃ m, k = m + 2 := ⟨k - 2, by omega⟩
  have hj : ∀ c : Bool, c = false → lintelref01_Stands.j1 (k + 1) a b (i : Int) c = some (if (a.size : Int) < (b.size : Int) then -1 else if (a.size : Int) > (b.size : Int) then 1 else 0) := by
    intro c hc
    subst hc
    simp only [lintelref01_Stands.j1]
    rw [if_neg (by decide)]
    by_cases h1 : (a.size : Int) < (b.size : Int)
    · rw [if_pos h1, if_pos h1]
    · rw [if_neg h1, if_neg h1]
      by_cases h2 : (a.size : Int) > (b.size : Int)
      · rw [if_pos h2, if_pos h2]
      · rw [if_neg h2, if_neg h2]
  simp only [lintelref01_Stands.l0]
  by_cases h : (i : Int) < (a.size : Int)
  · rw [if_pos h]
    exact hj _ (decide_eq_false (by omega))
  · rw [if_neg h]
    exact hj _ rfl
theorem stands_round (a b : ByteArray) (i k : Nat) (ha : a.size ≤ 140737488355328) (hi : i < a.size) (hj : i < b.size) (hk : 2 ≤ k) :
    lintelref01_Stands.l0 k a b (i : Int) = if a[i] < b[i] then some (-1) else if b[i] < a[i] then some 1 else lintelref01_Stands.l0 (k - 2) a b ((i + 1 : Nat) : Int) := by
  obtain ⟨k, rfl⟩ : ∃ m, k = m + 2 := ⟨k - 2, by omega⟩
  simp only [lintelref01_Stands.l0]
  rw [if_pos (by omega), decide_eq_true (by omega)]
  simp only [lintelref01_Stands.j1]
  rw [if_pos trivial, if_pos (by omega), if_pos (by omega), if_pos (by omega), bt_nat a i hi, bt_nat b i hj, wrap_nat i a.size hi ha]
  have e1 : ((a[i].toNat : Int) < (b[i].toNat : Int)) ↔ a[i] < b[i] := by rw [UInt8.lt_iff_toNat_lt]; omega
  have e2 : ((a[i].toNat : Int) > (b[i].toNat : Int)) ↔ b[i] < a[i] := by rw [UInt8.lt_iff_toNat_lt]; omega
  simp only [e1, e2]
  rfl
theorem stands_at (a b : ByteArray) (ha : a.size ≤ 140737488355328) : ∀ (d i k : Nat), a.size - i = d → 2 * d + 1 < k → i ≤ a.size → i ≤ b.size → a.toList.take i = b.toList.take i →
    lintelref01_Stands.l0 k a b (i : Int) = some (cmpL (a.toList.drop i) (b.toList.drop i)) := by
  intro d
  induction d with
  | zero =>
    intro i k hd hk hia hib ht
    rw [stands_end a b i k (by omega) (by omega), drop_end a i (by omega)]
    by_cases hj : i < b.size
    · rw [drop_at b i hj, if_pos (by omega)]; rfl
    · rw [drop_end b i (by omega), if_neg (by omega), if_neg (by omega)]; rfl
  | succ d ih =>
    intro i k hd hk hia hib ht
    by_cases hj : i < b.size
    · rw [stands_round a b i k ha (by omega) hj (by omega), drop_at a i (by omega), drop_at b i hj]
      simp only [cmpL]
      by_cases h1 : a[i] < b[i]
      · rw [if_pos h1, if_pos h1]
      · rw [if_neg h1, if_neg h1]
        by_cases h2 : b[i] < a[i]
        · rw [if_pos h2, if_pos h2]
        · rw [if_neg h2, if_neg h2]
          have e : a[i] = b[i] := UInt8.le_antisymm (UInt8.not_lt.1 h2) (UInt8.not_lt.1 h1)
          refine ih (i + 1) (k - 2) (by omega) (by omega) (by omega) (by omega) ?_
          rw [List.take_add_one, List.take_add_one, ht]
          congr 1
          have := drop_at a i (by omega)
          have h3 := drop_at b i hj
          rw [e] at this
          have q1 : a.toList[i]? = some b[i] := by
            have h4 := List.head?_drop (l := a.toList) (i := i)
            rw [this] at h4; exact h4.symm
          have q2 : b.toList[i]? = some b[i] := by
            have h4 := List.head?_drop (l := b.toList) (i := i)
            rw [h3] at h4; exact h4.symm
          rw [q1, q2]
    · rw [stands_end a b i k (by omega) (by omega), drop_end b i (by omega), drop_at a i (by omega), if_neg (by omega), if_pos (by omega)]; rfl
/-- Of any two texts. -/
theorem stands (a b : ByteArray) (ha : a.size ≤ 140737488355328) (k : Nat) (hk : 2 * a.size + 2 ≤ k) : lintelref01_Stands.f k a b = some (cmpS a b) := by
  have := stands_at a b ha a.size 0 k (by omega) (by omega) (by omega) (by omega) rfl
  simpa [lintelref01_Stands.f, cmpS] using this
/-- The walk's word. -/
theorem stands_calls (a b : ByteArray) (ha : a.size ≤ 140737488355328) (w : World) : Calls Try.prog 62 #[.string a, .string b] w fun e w' => e = .returned (.int .i64 (cmpS a b)) ∧ Drawn0 w w' :=
  lintelref01_Stands.calls _ a b _ w (stands a b ha _ (Nat.le_refl _))
end Go.Proofs.Ytphenpncdhgdhaa.Stands
