import Derived.Test.YtobjiamaapcbmaaPu
namespace Go.Proofs.Ytobjiamaapcbmaa.Sp
open Go.RowKit Go.Proofs.YtobjiamaapcbmaaW.PrintWords Go.Proofs.YtobjiamaapcbmaaW.PrintLast Go.Proofs.YtobjiamaapcbmaaW.PrintMore Go.Proofs.Ytobjiamaapcbmaa.Sl PRef Str
set_option linter.unusedVariables false
set_option linter.unusedSimpArgs false
theorem leq_iff (a b : ByteArray) : leq a b = true ↔ cmpS a b ≤ 0 := by rw [leq_s, decide_eq_true_eq]
theorem gt_all (key : ByteArray) : ∀ (l : List ByteArray) (b : ByteArray), okB b l = true → 0 < cmpS b key → cnt key l = 0 ∧ ∀ x ∈ l, 0 < cmpS x key
  | [], b, _, _ => ⟨rfl, by simp⟩
  | c :: l, b, h, hb => by
    simp only [okB, Bool.and_eq_true, Bool.not_eq_true'] at h
    have h1 : ¬ cmpS c b ≤ 0 := fun h2 => by rw [(leq_iff c b).2 h2] at h; cases h.1
    have hc : 0 < cmpS c key := by
      have e1 := cmpS_swap c b
      have e2 := cmpS_swap c key
      rcases Int.lt_or_le 0 (cmpS c key) with h3 | h3
      · exact h3
      · have h4 := cmpS_trans b c key (by omega) h3
        omega
    obtain ⟨i1, i2⟩ := gt_all key l c h.2 hc
    refine ⟨?_, fun x hx => ?_⟩
    · simp only [cnt, i1]
      rw [if_neg (fun h5 => by have := (leq_iff c key).1 h5; omega)]
    · rcases List.mem_cons.1 hx with rfl | hx
      · exact hc
      · exact i2 x hx
theorem cnt_spec (key : ByteArray) : ∀ (l : List ByteArray) (last : ByteArray), okB last l = true → ∀ i, i < l.length → (cmpS (l.getD i ByteArray.empty) key ≤ 0 ↔ i < cnt key l)
  | [], _, _, i, hi => by simp at hi
  | b :: l, last, h, i, hi => by
    simp only [okB, Bool.and_eq_true] at h
    by_cases hb : cmpS b key ≤ 0
    · have e : cnt key (b :: l) = 1 + cnt key l := by simp only [cnt]; rw [if_pos ((leq_iff b key).2 hb)]
      cases i with
      | zero => simp only [List.getD_cons_zero]; rw [e]; constructor <;> intro _ <;> omega
      | succ i =>
        have ih := cnt_spec key l b h.2 i (by simpa using hi)
        simp only [List.getD_cons_succ]
        rw [e, ih]
        omega
    · obtain ⟨i1, i2⟩ := gt_all key l b h.2 (by omega)
      have e : cnt key (b :: l) = 0 := by simp only [cnt, i1]; rw [if_neg (fun h5 => hb ((leq_iff b key).1 h5))]
      rw [e]
      cases i with
      | zero => simp only [List.getD_cons_zero]; constructor <;> intro _ <;> omega
      | succ i =>
        have := i2 _ (getD_mem l i (by simpa using hi))
        simp only [List.getD_cons_succ]
        constructor <;> intro _ <;> omega
/-- Has the shard i the key? -/
def hasB (l : List ByteArray) (i : Nat) (key : ByteArray) : Bool := !(decide (0 < i) && decide (cmpS key (l.getD (i - 1) ByteArray.empty) < 0)) && (decide (l.length ≤ i) || decide (cmpS key (l.getD i ByteArray.empty) < 0))
theorem hasB_iff (l : List ByteArray) (key : ByteArray) (h : okB ByteArray.empty l = true) (i : Nat) (hi : i ≤ l.length) : hasB l i key = decide (i = cnt key l) := by
  have hc := cnt_le key l
  rw [Bool.eq_iff_iff]
  simp only [hasB, Bool.and_eq_true, Bool.not_eq_true', Bool.and_eq_false_iff, Bool.or_eq_true, decide_eq_true_eq, decide_eq_false_iff_not]
  have s1 := cmpS_swap key (l.getD (i - 1) ByteArray.empty)
  have s2 := cmpS_swap key (l.getD i ByteArray.empty)
  constructor
  · rintro ⟨h1, h2⟩
    have g1 : i = 0 ∨ i - 1 < cnt key l := by
      rcases Nat.eq_zero_or_pos i with h0 | h0
      · exact .inl h0
      · refine .inr ((cnt_spec key l _ h (i - 1) (by omega)).1 ?_)
        rcases h1 with h1 | h1 <;> omega
    have g2 : l.length ≤ i ∨ ¬ i < cnt key l := by
      rcases h2 with h2 | h2
      · exact .inl h2
      · rcases Nat.lt_or_ge i l.length with h3 | h3
        · exact .inr (fun h4 => by have := (cnt_spec key l _ h i h3).2 h4; omega)
        · exact .inl h3
    omega
  · intro e
    constructor
    · rcases Nat.eq_zero_or_pos i with h0 | h0
      · exact .inl (by omega)
      · have := (cnt_spec key l _ h (i - 1) (by omega)).2 (by omega)
        exact .inr (by omega)
    · rcases Nat.lt_or_ge i l.length with h3 | h3
      · refine .inr ?_
        rcases Int.lt_or_le (cmpS key (l.getD i ByteArray.empty)) 0 with h4 | h4
        · exact h4
        · have := (cnt_spec key l _ h i h3).1 (by omega)
          omega
      · exact .inl h3
theorem has_calls (A : Option Addr) (c : Nat) (l : List ByteArray) (i : Nat) (key : ByteArray) (hk : Sm key) (hi : i ≤ l.length) (hl : l.length ≤ 1000) (hc : l.length ≤ c) (w : World) (hr : Kd.C Kd.string w A l.length l) :
    Calls Try.prog 12 #[.slice A l.length c, .int .i64 (i : Int), .string key] w fun e w' => e = .returned (.bool (hasB l i key)) ∧ Drawn0 w w' := by
  refine lintelref14_Has.calls 281474976710700 A c l i key (hasB l i key) w hr hc ?_
  have st := fun b => Stands.stands key b hk 281474976710700 (by unfold Sm at hk; omega)
  unfold lintelref14_Has.f hasB
  by_cases h0 : 0 < i
  · rw [if_pos (by omega), rd_pred l i h0 (by omega), if_pos (by omega), if_pos (by omega), rd_nat, st, decide_eq_true h0]
    simp only [Option.bind_some]
    by_cases h1 : cmpS key (l.getD (i - 1) ByteArray.empty) < 0
    · rw [if_pos h1, decide_eq_true h1]; rfl
    · rw [if_neg h1, decide_eq_false h1]
      by_cases h2 : l.length ≤ i
      · rw [if_pos (by omega), decide_eq_true h2]; rfl
      · rw [if_neg (by omega), if_pos (by omega), if_pos (by omega), rd_nat, st, decide_eq_false h2]; rfl
  · rw [if_neg (by omega), decide_eq_false h0]
    by_cases h2 : l.length ≤ i
    · rw [if_pos (by omega), decide_eq_true h2]; rfl
    · rw [if_neg (by omega), if_pos (by omega), if_pos (by omega), rd_nat, st, decide_eq_false h2]; rfl
end Go.Proofs.Ytobjiamaapcbmaa.Sp
