/- SameCells: what the printed functions compute. -/
import Derived.Test.YtkhbmamcbhjafaaCellsP
import Derived.Test.YtkhbmamcbhjafaaCellsA
import Derived.Test.YtkhbmamcbhjafaaPRefx9
namespace Go.Proofs.Ytkhbmamcbhjafaa.Keys
open Go.RowKit Go.Proofs.YtkhbmamcbhjafaaW.PrintWords Go.Proofs.YtkhbmamcbhjafaaW.PrintLast Go.Proofs.YtkhbmamcbhjafaaW.PrintMore Go.Proofs.Ytkhbmamcbhjafaa.Str Go.Proofs.Ytkhbmamcbhjafaa.PRef Go.Proofs.Ytkhbmamcbhjafaa.Stands
set_option linter.unusedVariables false
set_option linter.unusedSimpArgs false
/-! Lists of the same cells. -/
theorem c_ext (a b : C) (h0 : a.f0 = b.f0) (h1 : a.f1 = b.f1) : a = b := by
  cases a; cases b; simp only at h0 h1; subst h0; subst h1; rfl
instance : DecidableEq C := fun a b => decidable_of_iff (a.f0 = b.f0 ∧ a.f1 = b.f1) ⟨fun h => c_ext a b h.1 h.2, fun h => by rw [h]; exact ⟨rfl, rfl⟩⟩
theorem samec_l0 (a b : List C) (he : a.length = b.length) (hl : a.length ≤ 140737488355328) : ∀ (d i k : Nat), a.length - i = d → i ≤ a.length → d < k →
    lintelref20_SameCells.l0 k a b (i : Int) = some (decide (a.drop i = b.drop i)) := by
  intro d
  induction d with
  | zero =>
    intro i k hd hi hk
    obtain ⟨k, rfl⟩ : ∃ m, k = m + 1 := ⟨k - 1, by omega⟩
    simp only [lintelref20_SameCells.l0]
    rw [if_neg (by omega), List.drop_eq_nil_of_le (by omega), List.drop_eq_nil_of_le (by omega)]
    simp
  | succ d ih =>
    intro i k hd hi hk
    obtain ⟨k, rfl⟩ : ∃ m, k = m + 1 := ⟨k - 1, by omega⟩
    have h1 : i < a.length := by omega
    have h2 : i < b.length := by omega
    have hw : wrap64 ((i : Int) + 1) = ((i + 1 : Nat) : Int) := by unfold wrap64; omega
    simp only [lintelref20_SameCells.l0]
    rw [if_pos (by omega), if_pos (by omega), if_pos (by omega), rdc a i h1, rdc b i h2, hw, ih (i + 1) k (by omega) (by omega) (by omega), List.drop_eq_getElem_cons h1, List.drop_eq_getElem_cons h2]
    have hv : (a[i] = b[i]) ↔ (a[i].f0 = b[i].f0 ∧ a[i].f1.f0 = b[i].f1.f0 ∧ a[i].f1.f1 = b[i].f1.f1 ∧ a[i].f1.f2.toList = b[i].f1.f2.toList) := ⟨fun h => by rw [h]; exact ⟨rfl, rfl, rfl, rfl⟩, fun h => c_ext _ _ h.1 (v_ext _ _ h.2.1 h.2.2.1 (ext _ _ h.2.2.2))⟩
    have hc : (a[i] :: a.drop (i + 1) = b[i] :: b.drop (i + 1)) ↔ a[i] = b[i] ∧ a.drop (i + 1) = b.drop (i + 1) := by rw [List.cons.injEq]
    by_cases h : a[i] = b[i]
    · have h3 := hv.1 h
      rw [if_neg (by simp [h3])]
      congr 1
      rw [decide_eq_decide, hc]
      simp only [h, true_and]
    · rw [if_pos (by
        simp only [Bool.or_eq_true, Bool.not_eq_true', beq_eq_false_iff_ne]
        by_cases q0 : a[i].f0 = b[i].f0
        · by_cases q1 : a[i].f1.f0 = b[i].f1.f0
          · by_cases q2 : a[i].f1.f1 = b[i].f1.f1
            · exact .inr (.inr (.inr (fun q3 => h (hv.2 ⟨q0, q1, q2, q3⟩))))
            · exact .inr (.inr (.inl q2))
          · exact .inr (.inl q1)
        · exact .inl q0), decide_eq_false (fun h3 => h (hc.1 h3).1)]
theorem samec_eq (a b : List C) (hl : a.length ≤ 140737488355328) (r : Bool) (h : r = decide (a = b)) : lintelref20_SameCells.f (a.length + 1) a b = some r := by
  rw [h]
  unfold lintelref20_SameCells.f
  by_cases he : a.length = b.length
  · rw [if_pos (by omega)]
    have := samec_l0 a b he hl a.length 0 (a.length + 1) (by omega) (by omega) (by omega)
    simpa using this
  · rw [if_neg (by omega), decide_eq_false (fun h => he (by rw [h]))]
end Go.Proofs.Ytkhbmamcbhjafaa.Keys
