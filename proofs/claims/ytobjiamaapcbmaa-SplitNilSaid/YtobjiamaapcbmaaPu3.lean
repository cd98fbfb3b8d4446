import Derived.Test.YtobjiamaapcbmaaPu2
namespace Go.Proofs.Ytobjiamaapcbmaa.Sp
open Go.RowKit Go.Proofs.YtobjiamaapcbmaaW.PrintWords Go.Proofs.YtobjiamaapcbmaaW.PrintLast Go.Proofs.YtobjiamaapcbmaaW.PrintMore Go.Proofs.Ytobjiamaapcbmaa.Sl PRef Str
set_option linter.unusedVariables false
set_option linter.unusedSimpArgs false
theorem maxS_cmp (x y : ByteArray) : Lib.maxS x y = if cmpS x y < 0 then y else x := by
  unfold Lib.maxS cmpS
  rw [← toList_eq, ← toList_eq]
  by_cases h : x.toList < y.toList
  · rw [if_pos h, if_pos ((lt_cmpL _ _).1 h)]
  · rw [if_neg h, if_neg (fun h2 => h ((lt_cmpL _ _).2 h2))]
theorem minS_cmp (x y : ByteArray) : Lib.minS x y = if cmpS x y > 0 then y else x := by
  unfold Lib.minS
  rw [← toList_eq, ← toList_eq]
  have e : (x.toList < y.toList ∨ x.toList = y.toList) ↔ cmpS x y ≤ 0 := by
    unfold cmpS
    rw [lt_cmpL]
    constructor
    · rintro (h | h)
      · omega
      · rw [h, cmpL_self]; omega
    · intro h
      rcases Int.lt_or_eq_of_le h with h1 | h1
      · exact .inl h1
      · exact .inr (cmpL_zero _ _ h1)
  by_cases h : cmpS x y ≤ 0
  · rw [if_pos (e.2 h), if_neg (by omega)]
  · rw [if_neg (fun h2 => h (e.1 h2)), if_pos (by omega)]
/-- Is a key in a span? -/
def wn (key : ByteArray) (p : S34) : Bool := decide (cmpS p.f0 key ≤ 0) && decide (cmpS key p.f1 < 0)
theorem wn_part (l : List ByteArray) (p : S34) (key : ByteArray) (i : Nat) : wn key (partF l p i) = (wn key p && hasB l i key) := by
  unfold wn partF hasB
  simp only
  rw [Bool.eq_iff_iff]
  simp only [Bool.and_eq_true, Bool.or_eq_true, Bool.not_eq_true', Bool.and_eq_false_iff, decide_eq_true_eq, decide_eq_false_iff_not]
  rw [maxS_cmp, minS_cmp]
  generalize l.getD (i - 1) ByteArray.empty = a
  generalize l.getD i ByteArray.empty = b
  have a1 := cmpS_swap p.f0 key
  have a2 := cmpS_swap a key
  have a3 := cmpS_swap p.f0 a
  have b1 := cmpS_swap key p.f1
  have b2 := cmpS_swap key b
  have b3 := cmpS_swap p.f1 b
  have left : cmpS (if 0 < i then (if cmpS p.f0 a < 0 then a else p.f0) else p.f0) key ≤ 0 ↔ cmpS p.f0 key ≤ 0 ∧ (¬ 0 < i ∨ ¬ cmpS key a < 0) := by
    by_cases h0 : 0 < i
    · rw [if_pos h0]
      by_cases h1 : cmpS p.f0 a < 0
      · rw [if_pos h1]
        constructor
        · intro h2
          have := cmpS_trans p.f0 a key (by omega) h2
          exact ⟨this.1, .inr (by omega)⟩
        · rintro ⟨_, h2 | h2⟩ <;> omega
      · rw [if_neg h1]
        constructor
        · intro h2
          have := cmpS_trans a p.f0 key (by omega) h2
          exact ⟨h2, .inr (by omega)⟩
        · exact fun h => h.1
    · rw [if_neg h0]
      exact ⟨fun h => ⟨h, .inl h0⟩, fun h => h.1⟩
  have right : cmpS key (if i < l.length then (if cmpS p.f1 b > 0 then b else p.f1) else p.f1) < 0 ↔ cmpS key p.f1 < 0 ∧ (l.length ≤ i ∨ cmpS key b < 0) := by
    by_cases h0 : i < l.length
    · rw [if_pos h0]
      by_cases h1 : cmpS p.f1 b > 0
      · rw [if_pos h1]
        constructor
        · intro h2
          have := cmpS_trans key b p.f1 (by omega) (by omega)
          refine ⟨?_, .inr h2⟩
          rcases Int.lt_or_eq_of_le this.1 with h3 | h3
          · exact h3
          · have := this.2 h3; omega
        · rintro ⟨_, h2 | h2⟩ <;> omega
      · rw [if_neg h1]
        constructor
        · intro h2
          have := cmpS_trans key p.f1 b (by omega) (by omega)
          refine ⟨h2, .inr ?_⟩
          rcases Int.lt_or_eq_of_le this.1 with h3 | h3
          · exact h3
          · have := this.2 h3; omega
        · exact fun h => h.1
    · rw [if_neg h0]
      exact ⟨fun h => ⟨h, .inl (by omega)⟩, fun h => h.1⟩
  rw [left, right]
  constructor
  · rintro ⟨⟨x1, x2⟩, x3, x4⟩
    exact ⟨⟨x1, x3⟩, x2, x4⟩
  · rintro ⟨⟨x1, x3⟩, x2, x4⟩
    exact ⟨⟨x1, x2⟩, x3, x4⟩
theorem wn_lt (key : ByteArray) (p : S34) (h : wn key p = true) : Op.bytesLess p.f0.toList p.f1.toList = true := by
  unfold wn at h
  simp only [Bool.and_eq_true, decide_eq_true_eq] at h
  rw [less_s, decide_eq_true_eq]
  have := cmpS_trans p.f0 key p.f1 h.1 (by omega)
  rcases Int.lt_or_eq_of_le this.1 with h3 | h3
  · exact h3
  · have := this.2 h3; omega
def wc (key : ByteArray) (xs : List S39) : Nat := (xs.filter fun x => wn key x.f1).length
theorem wc_snoc (key : ByteArray) (xs : List S39) (x : S39) : wc key (xs ++ [x]) = wc key xs + if wn key x.f1 = true then 1 else 0 := by
  unfold wc
  rw [List.filter_append, List.length_append]
  by_cases h : wn key x.f1 = true
  · simp [h]
  · simp [h]
theorem wc_le (key : ByteArray) (xs : List S39) : wc key xs ≤ xs.length := List.length_filter_le _ _
theorem parts_mem (l : List ByteArray) (p : S34) (key : ByteArray) (h : okB ByteArray.empty l = true) : ∀ k, k ≤ l.length + 1 → ∀ x ∈ partsTo l p k, wn key x.f1 = true → x.f0 = (cnt key l : Int)
  | 0, _, x, hx, _ => by simp [partsTo] at hx
  | k + 1, hk, x, hx, hw => by
    simp only [partsTo, List.mem_append] at hx
    rcases hx with hx | hx
    · exact parts_mem l p key h k (by omega) x hx hw
    · by_cases hb : Op.bytesLess (partF l p k).f0.toList (partF l p k).f1.toList = true
      · rw [if_pos hb] at hx
        simp only [List.mem_singleton] at hx
        subst hx
        simp only at hw
        rw [wn_part, hasB_iff l key h k (by omega)] at hw
        simp only [Bool.and_eq_true, decide_eq_true_eq] at hw
        rw [← hw.2]
      · rw [if_neg hb] at hx
        cases hx
theorem parts_wc (l : List ByteArray) (p : S34) (key : ByteArray) (h : okB ByteArray.empty l = true) : ∀ k, k ≤ l.length + 1 → wc key (partsTo l p k) = if wn key p = true ∧ cnt key l < k then 1 else 0
  | 0, _ => by simp [partsTo, wc]
  | k + 1, hk => by
    have ih := parts_wc l p key h k (by omega)
    have hw : wn key (partF l p k) = (wn key p && decide (k = cnt key l)) := by rw [wn_part, hasB_iff l key h k (by omega)]
    simp only [partsTo]
    by_cases hb : Op.bytesLess (partF l p k).f0.toList (partF l p k).f1.toList = true
    · rw [if_pos hb, wc_snoc, ih]
      simp only [hw, Bool.and_eq_true, decide_eq_true_eq]
      by_cases h1 : wn key p = true
      · simp only [h1, true_and]
        by_cases h2 : cnt key l < k
        · rw [if_pos h2, if_neg (by omega), if_pos (by omega)]
        · by_cases h3 : k = cnt key l
          · rw [if_neg h2, if_pos h3, if_pos (by omega)]
          · rw [if_neg h2, if_neg h3, if_neg (by omega)]
      · simp [h1]
    · rw [if_neg hb, List.append_nil, ih]
      have h4 : ¬ (wn key p = true ∧ k = cnt key l) := by
        rintro ⟨h5, h6⟩
        refine hb (wn_lt key _ ?_)
        rw [hw, h5, decide_eq_true h6]; rfl
      by_cases h1 : wn key p = true
      · have h7 : k ≠ cnt key l := fun h8 => h4 ⟨h1, h8⟩
        simp only [h1, true_and]
        by_cases h2 : cnt key l < k
        · rw [if_pos h2, if_pos (by omega)]
        · rw [if_neg h2, if_neg (by omega)]
      · simp [h1]
theorem within_calls (key : ByteArray) (p : S34) (h1 : Sm key) (h2 : Sm p.f0) (w : World) :
    Calls Try.prog 16 #[.string key, .agg #[.string p.f0, .string p.f1]] w fun e w' => e = .returned (.bool (wn key p)) ∧ Below w.heap.size w w' := by
  refine lintelref12_Within.calls 281474976710700 key p.f0 p.f1 (wn key p) w ?_
  unfold lintelref12_Within.f wn
  rw [Stands.stands _ _ h2 _ (by unfold Sm at h2; omega)]
  simp only [Option.bind_some]
  by_cases h : cmpS p.f0 key ≤ 0
  · rw [if_pos h, Stands.stands _ _ h1 _ (by unfold Sm at h1; omega), decide_eq_true h]; rfl
  · rw [if_neg h, decide_eq_false h]; rfl
end Go.Proofs.Ytobjiamaapcbmaa.Sp
