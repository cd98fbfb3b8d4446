/- Same, Compare, Stands of lists. -/
import Derived.Test.YtaedejjbchpbfaaKeysF
namespace Go.Proofs.Ytaedejjbchpbfaa.Keys
open Go.RowKit Go.Proofs.YtaedejjbchpbfaaW.PrintWords Go.Proofs.YtaedejjbchpbfaaW.PrintLast Go.Proofs.YtaedejjbchpbfaaW.PrintMore Go.Proofs.Ytaedejjbchpbfaa.Str Go.Proofs.Ytaedejjbchpbfaa.PRef Go.Proofs.Ytaedejjbchpbfaa.Stands
set_option linter.unusedVariables false
set_option linter.unusedSimpArgs false
/-- Lists of the same values. -/
theorem same_l0 (a b : List V) (he : a.length = b.length) (hl : a.length ≤ 140737488355328) : ∀ (d i k : Nat), a.length - i = d → i ≤ a.length → d < k →
    lintelref01_Same.l0 k a b (i : Int) = some (decide (a.drop i = b.drop i)) := by
  intro d
  induction d with
  | zero =>
    intro i k hd hi hk
    obtain ⟨k, rfl⟩ : ∃ m, k = m + 1 := ⟨k - 1, by omega⟩
    simp only [lintelref01_Same.l0]
    rw [if_neg (by omega), List.drop_eq_nil_of_le (by omega), List.drop_eq_nil_of_le (by omega)]
    simp
  | succ d ih =>
    intro i k hd hi hk
    obtain ⟨k, rfl⟩ : ∃ m, k = m + 1 := ⟨k - 1, by omega⟩
    have h1 : i < a.length := by omega
    have h2 : i < b.length := by omega
    have hw : wrap64 ((i : Int) + 1) = ((i + 1 : Nat) : Int) := by unfold wrap64; omega
    simp only [lintelref01_Same.l0]
    rw [if_pos (by omega), if_pos (by omega), if_pos (by omega), rdv a i h1, rdv b i h2, hw, ih (i + 1) k (by omega) (by omega) (by omega), List.drop_eq_getElem_cons h1, List.drop_eq_getElem_cons h2]
    have hv : (a[i] = b[i]) ↔ (a[i].f0 = b[i].f0 ∧ a[i].f1 = b[i].f1 ∧ a[i].f2.toList = b[i].f2.toList) := ⟨fun h => by rw [h]; exact ⟨rfl, rfl, rfl⟩, fun h => v_ext _ _ h.1 h.2.1 (ext _ _ h.2.2)⟩
    have hc : (a[i] :: a.drop (i + 1) = b[i] :: b.drop (i + 1)) ↔ a[i] = b[i] ∧ a.drop (i + 1) = b.drop (i + 1) := by rw [List.cons.injEq]
    by_cases h : a[i] = b[i]
    · have h3 := hv.1 h
      rw [if_neg (by simp [h3])]
      congr 1
      rw [decide_eq_decide, hc]
      simp only [h, true_and]
    · rw [if_pos (by
        simp only [Bool.or_eq_true, Bool.not_eq_true', beq_eq_false_iff_ne]
        by_cases q0 : a[i].f0 = b[i].f0
        · by_cases q1 : a[i].f1 = b[i].f1
          · exact .inr (.inr (fun q2 => h (hv.2 ⟨q0, q1, q2⟩)))
          · exact .inr (.inl q1)
        · exact .inl q0), decide_eq_false (fun h3 => h (hc.1 h3).1)]
theorem same_eq (a b : List V) (hl : a.length ≤ 140737488355328) (k : Nat) (hk : a.length < k) : lintelref01_Same.f k a b = some (decide (a = b)) := by
  unfold lintelref01_Same.f
  by_cases he : a.length = b.length
  · rw [if_pos (by omega)]
    have := same_l0 a b he hl a.length 0 k (by omega) (by omega) (by omega)
    simpa using this
  · rw [if_neg (by omega), decide_eq_false (fun h => he (by rw [h]))]
theorem compare_eq (a b : V) (ha : a.f2.size ≤ 140737488355328) (k : Nat) (hk : 281474976710700 ≤ k) : lintelref01_Compare.f k a.f0 a.f1 a.f2 b.f0 b.f1 b.f2 = some (cmpV a b) := by
  obtain ⟨k, rfl⟩ : ∃ m, k = m + 1 := ⟨k - 1, by omega⟩
  have st := Stands.stands a.f2 b.f2 ha k (by omega)
  have hj : ∀ c : Bool, c = false → lintelref01_Compare.j0 (k + 1) c a.f0 a.f1 a.f2 b.f0 b.f1 b.f2 = some (if a.f0 > b.f0 ∨ a.f1 > b.f1 then 1 else cmpS a.f2 b.f2) := by
    intro c hc
    subst hc
    simp only [lintelref01_Compare.j0]
    rw [if_neg (by decide)]
    by_cases h1 : a.f0 > b.f0
    · rw [if_pos h1, if_pos (.inl h1)]
    · rw [if_neg h1]
      by_cases h2 : a.f1 > b.f1
      · rw [if_pos h2, if_pos (.inr h2)]
      · rw [if_neg h2, st, if_neg (by omega)]; rfl
  have hj1 : lintelref01_Compare.j0 (k + 1) true a.f0 a.f1 a.f2 b.f0 b.f1 b.f2 = some (-1) := by
    simp only [lintelref01_Compare.j0]; rfl
  unfold lintelref01_Compare.f cmpV
  by_cases h1 : a.f0 < b.f0
  · rw [if_pos h1, if_pos (.inl h1), hj1]
  · rw [if_neg h1]
    by_cases h2 : a.f0 = b.f0
    · rw [if_pos h2]
      by_cases h3 : a.f1 < b.f1
      · rw [decide_eq_true h3, hj1, if_pos (.inr ⟨h2, h3⟩)]
      · rw [decide_eq_false h3, hj _ rfl, if_neg (show ¬ (a.f0 < b.f0 ∨ (a.f0 = b.f0 ∧ a.f1 < b.f1)) by omega)]
    · rw [if_neg h2, hj _ rfl, if_neg (show ¬ (a.f0 < b.f0 ∨ (a.f0 = b.f0 ∧ a.f1 < b.f1)) by omega)]
theorem stands_l0 (a b : List V) (ha : ∀ v ∈ a, v.f2.size ≤ 140737488355328) (hl : a.length ≤ 140737488355328) : ∀ (d i k : Nat), a.length - i = d → i ≤ a.length → i ≤ b.length → 2 * d + 281474976710710 ≤ k → cmpVs (a.take i) (b.take i) = 0 →
    lintelref02_Stands.l0 k a b (i : Int) = some (cmpVs (a.drop i) (b.drop i)) := by
  have hend : ∀ (i k : Nat), ¬ (i < a.length ∧ i < b.length) → 2 ≤ k → lintelref02_Stands.l0 k a b (i : Int) = some (if (a.length : Int) < (b.length : Int) then -1 else if (a.length : Int) > (b.length : Int) then 1 else 0) := by
    intro i k h hk
    obtain ⟨k, rfl⟩ : ∃ m, k = m + 2 := ⟨k - 2, by omega⟩
    have hj : ∀ c : Bool, c = false → lintelref02_Stands.j1 (k + 1) a b (i : Int) c = some (if (a.length : Int) < (b.length : Int) then -1 else if (a.length : Int) > (b.length : Int) then 1 else 0) := by
      intro c hc
      subst hc
      simp only [lintelref02_Stands.j1]
      rw [if_neg (by decide)]
      by_cases h1 : (a.length : Int) < (b.length : Int)
      · rw [if_pos h1, if_pos h1]
      · rw [if_neg h1, if_neg h1]
        by_cases h2 : (a.length : Int) > (b.length : Int)
        · rw [if_pos h2, if_pos h2]
        · rw [if_neg h2, if_neg h2]
    simp only [lintelref02_Stands.l0]
    by_cases h1 : (i : Int) < (a.length : Int)
    · rw [if_pos h1]
      exact hj _ (decide_eq_false (by omega))
    · rw [if_neg h1]
      exact hj _ rfl
  intro d
  induction d with
  | zero =>
    intro i k hd hi hib hk ht
    rw [hend i k (by omega) (by omega), List.drop_eq_nil_of_le (show a.length ≤ i by omega)]
    by_cases hb : i < b.length
    · rw [List.drop_eq_getElem_cons hb, if_pos (by omega)]; rfl
    · rw [List.drop_eq_nil_of_le (show b.length ≤ i by omega), if_neg (by omega), if_neg (by omega)]; rfl
  | succ d ih =>
    intro i k hd hi hib hk ht
    have h1 : i < a.length := by omega
    by_cases h2 : i < b.length
    · obtain ⟨k, rfl⟩ : ∃ m, k = m + 2 := ⟨k - 2, by omega⟩
      have hw : wrap64 ((i : Int) + 1) = ((i + 1 : Nat) : Int) := by unfold wrap64; omega
      simp only [lintelref02_Stands.l0]
      rw [if_pos (by omega), decide_eq_true (by omega)]
      simp only [lintelref02_Stands.j1]
      rw [if_pos trivial, if_pos (by omega), if_pos (by omega), if_pos (by omega), rdv a i h1, rdv b i h2, compare_eq a[i] b[i] (ha _ (List.getElem_mem h1)) k (by omega), hw]
      simp only [Option.bind_some]
      rw [List.drop_eq_getElem_cons h1, List.drop_eq_getElem_cons h2]
      simp only [cmpVs]
      by_cases h3 : cmpV a[i] b[i] = 0
      · rw [if_pos h3, if_neg (by simpa using h3)]
        refine ih (i + 1) k (by omega) (by omega) (by omega) (by omega) ?_
        rw [take_succ' a i h1, take_succ' b i h2]
        exact cmpVs_snoc _ _ _ _ (by simp; omega) ht h3
      · rw [if_neg h3, if_pos h3]
    · rw [hend i k (by omega) (by omega), List.drop_eq_nil_of_le (show b.length ≤ i by omega), List.drop_eq_getElem_cons h1, if_neg (by omega), if_pos (by omega)]; rfl
where
  cmpVs_snoc : ∀ (a b : List V) (x y : V), a.length = b.length → cmpVs a b = 0 → cmpV x y = 0 → cmpVs (a ++ [x]) (b ++ [y]) = 0
  | [], [], x, y, _, _, h => by simp [cmpVs, h]
  | [], _ :: _, _, _, h, _, _ => by simp at h
  | _ :: _, [], _, _, h, _, _ => by simp at h
  | v :: a, w :: b, x, y, h, h1, h2 => by
    simp only [cmpVs, List.cons_append] at h1 ⊢
    by_cases h3 : cmpV v w = 0
    · rw [if_neg (by simpa using h3)] at h1 ⊢
      exact cmpVs_snoc a b x y (by simpa using h) h1 h2
    · rw [if_pos h3] at h1
      exact absurd h1 h3
theorem stands_eq (a b : List V) (ha : ∀ v ∈ a, v.f2.size ≤ 140737488355328) (hl : a.length ≤ 140737488355328) (k : Nat) (hk : 2 * a.length + 281474976710710 ≤ k) : lintelref02_Stands.f k a b = some (cmpVs a b) := by
  have := stands_l0 a b ha hl a.length 0 k (by omega) (by omega) (by omega) (by omega) rfl
  simpa [lintelref02_Stands.f] using this
theorem in_eq (s : ByteArray) (p q : ByteArray) (hs : s.size ≤ 140737488355328) (hp : p.size ≤ 140737488355328) (k : Nat) (hk : 281474976710700 ≤ k) : lintelref02_In.f k s p q = some (decide (cmpS p s ≤ 0) && decide (cmpS s q < 0)) := by
  unfold lintelref02_In.f
  rw [Stands.stands _ _ hp _ (by omega)]
  simp only [Option.bind_some]
  by_cases h : cmpS p s ≤ 0
  · rw [if_pos h, Stands.stands _ _ hs _ (by omega), decide_eq_true h]; rfl
  · rw [if_neg h, decide_eq_false h]; rfl
end Go.Proofs.Ytaedejjbchpbfaa.Keys
