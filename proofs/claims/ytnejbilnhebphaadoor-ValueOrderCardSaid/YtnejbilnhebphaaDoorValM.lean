/- Layer 1: the order is one, plain. -/
import Derived.Test.YtnejbilnhebphaaDoorValV
namespace Go.Proofs.YtnejbilnhebphaaDoor.Val
open Go.Proofs.YtnejbilnhebphaaDoor.Str
set_option linter.unusedVariables false
def lexC (a b : Int) : Int := if a ≠ 0 then a else b
/-- Of three that stand p, q and r to one another. -/
def T3 (p q r : Int) : Prop := (p ≤ 0 → q ≤ 0 → r ≤ 0 ∧ (r = 0 → p = 0 ∧ q = 0)) ∧ (0 ≤ p → 0 ≤ q → 0 ≤ r ∧ (r = 0 → p = 0 ∧ q = 0))
theorem lexC_cases (a b : Int) : (a = 0 ∧ lexC a b = b) ∨ (a ≠ 0 ∧ lexC a b = a) := by
  by_cases h : a = 0
  · exact .inl ⟨h, by simp [lexC, h]⟩
  · exact .inr ⟨h, by simp [lexC, h]⟩
theorem T3.lex {p q r p' q' r' : Int} (h : T3 p q r) (h' : T3 p' q' r') : T3 (lexC p p') (lexC q q') (lexC r r') := by
  obtain ⟨h1, h2⟩ := h
  obtain ⟨h3, h4⟩ := h'
  unfold T3
  rcases lexC_cases p p' with ⟨a1, b1⟩ | ⟨a1, b1⟩ <;> rcases lexC_cases q q' with ⟨a2, b2⟩ | ⟨a2, b2⟩ <;> rcases lexC_cases r r' with ⟨a3, b3⟩ | ⟨a3, b3⟩ <;> rw [b1, b2, b3] <;> omega
theorem cmpI_T (a b c : Int) : T3 (cmpI a b) (cmpI b c) (cmpI a c) := by
  unfold T3
  rcases cmpI_cases a b with ⟨h1, e1⟩ | ⟨h1, e1⟩ | ⟨h1, e1⟩ <;> rcases cmpI_cases b c with ⟨h2, e2⟩ | ⟨h2, e2⟩ | ⟨h2, e2⟩ <;> rcases cmpI_cases a c with ⟨h3, e3⟩ | ⟨h3, e3⟩ | ⟨h3, e3⟩ <;>
    rw [e1, e2, e3] <;> omega
theorem cmpS_T (a b c : ByteArray) : T3 (cmpS a b) (cmpS b c) (cmpS a c) := by
  have h1 := cmpS_trans a b c
  have h2 := cmpS_trans c b a
  have e1 := cmpS_swap a b
  have e2 := cmpS_swap b c
  have e3 := cmpS_swap a c
  rw [e1, e2, e3] at h2
  unfold T3
  refine ⟨h1, fun p q => ?_⟩
  have := h2 (by omega) (by omega)
  omega
theorem cmpV_lex (ka na : Int) (sa : ByteArray) (kb nb : Int) (sb : ByteArray) : cmpV ka na sa kb nb sb = lexC (cmpI ka kb) (lexC (cmpI na nb) (cmpS sa sb)) := or3 _ _ _
theorem cmpV_T (ka na : Int) (sa : ByteArray) (kb nb : Int) (sb : ByteArray) (kc nc : Int) (sc : ByteArray) : T3 (cmpV ka na sa kb nb sb) (cmpV kb nb sb kc nc sc) (cmpV ka na sa kc nc sc) := by
  rw [cmpV_lex, cmpV_lex, cmpV_lex]
  exact (cmpI_T ka kb kc).lex ((cmpI_T na nb nc).lex (cmpS_T sa sb sc))
theorem cmpI_swap (a b : Int) : cmpI b a = - cmpI a b := by
  rcases cmpI_cases a b with ⟨h1, e1⟩ | ⟨h1, e1⟩ | ⟨h1, e1⟩ <;> rcases cmpI_cases b a with ⟨h2, e2⟩ | ⟨h2, e2⟩ | ⟨h2, e2⟩ <;> rw [e1, e2] <;> omega
theorem cmpV_swap (ka na : Int) (sa : ByteArray) (kb nb : Int) (sb : ByteArray) : cmpV kb nb sb ka na sa = - cmpV ka na sa kb nb sb := by
  rw [cmpV_lex, cmpV_lex, cmpI_swap ka kb, cmpI_swap na nb, cmpS_swap sa sb]
  unfold lexC
  by_cases h1 : cmpI ka kb = 0 <;> by_cases h2 : cmpI na nb = 0 <;> simp [h1, h2]
theorem cmpV_range (ka na : Int) (sa : ByteArray) (kb nb : Int) (sb : ByteArray) : -1 ≤ cmpV ka na sa kb nb sb ∧ cmpV ka na sa kb nb sb ≤ 1 := by
  rw [cmpV_lex]
  have h3 := cmpS_range sa sb
  unfold lexC
  rcases cmpI_cases ka kb with ⟨h1, e1⟩ | ⟨h1, e1⟩ | ⟨h1, e1⟩ <;> rcases cmpI_cases na nb with ⟨h2, e2⟩ | ⟨h2, e2⟩ | ⟨h2, e2⟩ <;> rw [e1, e2] <;> simp <;> omega
theorem cmpV_zero (ka na : Int) (sa : ByteArray) (kb nb : Int) (sb : ByteArray) : cmpV ka na sa kb nb sb = 0 ↔ ka = kb ∧ na = nb ∧ sa = sb := by
  rw [cmpV_lex]
  unfold lexC
  constructor
  · intro h
    by_cases h1 : cmpI ka kb = 0
    · rw [if_neg (by simpa using h1)] at h
      by_cases h2 : cmpI na nb = 0
      · rw [if_neg (by simpa using h2)] at h
        refine ⟨?_, ?_, cmpS_zero _ _ h⟩
        · rcases cmpI_cases ka kb with ⟨_, e⟩ | ⟨e, _⟩ | ⟨_, e⟩ <;> omega
        · rcases cmpI_cases na nb with ⟨_, e⟩ | ⟨e, _⟩ | ⟨_, e⟩ <;> omega
      · rw [if_pos h2] at h
        exact absurd h h2
    · rw [if_pos h1] at h
      exact absurd h h1
  · rintro ⟨rfl, rfl, rfl⟩
    have e : ∀ a : Int, cmpI a a = 0 := fun a => by unfold cmpI; simp
    simp [e, cmpS_self]
open Go.Lib (itoa parseIntB trimSuffix replaceAll hasPrefix)
theorem readV_print (k n : Int) (s : List UInt8) (h0 : -9223372036854775808 ≤ n) (h1 : n ≤ 9223372036854775807) (hok : okV k n s = true) : printV k n s = ((printV k n s).1, 0) ∧ readV (printV k n s).1 = (k, n, s, 0) ∧ (printV k n s).1.length ≤ 1000 := by
  unfold printV
  rw [hok]
  simp only [if_true, true_and]
  unfold okV at hok
  by_cases hk0 : k = 0
  · rw [if_pos hk0] at hok
    simp only [Bool.and_eq_true, decide_eq_true_eq] at hok
    obtain ⟨rfl, rfl⟩ := hok
    subst hk0
    exact ⟨rfl, by decide⟩
  · rw [if_neg hk0] at hok
    simp only [if_neg hk0]
    by_cases hk1 : k = 1
    · rw [if_pos hk1] at hok
      simp only [if_pos hk1]
      simp only [decide_eq_true_eq] at hok
      subst hok
      subst hk1
      exact ⟨readV_itoa n h0 h1, by have := Lib.itoa_length_le n h0 h1; omega⟩
    · rw [if_neg hk1] at hok
      simp only [if_neg hk1]
      simp only [Bool.and_eq_true, decide_eq_true_eq] at hok
      obtain ⟨⟨rfl, rfl⟩, h64⟩ := hok
      refine ⟨readV_quote s h64, ?_⟩
      have := dbl_le s
      simp [quote]
      omega
theorem readV_inv (l : List UInt8) : readV l = (0, 0, [], 10) ∨ ∃ k n t, readV l = (k, n, t, 0) ∧ okV k n t = true ∧ printV k n t = (l, 0) ∧ -9223372036854775808 ≤ n ∧ n ≤ 9223372036854775807 := by
  by_cases h0 : l = [110, 117, 108, 108]
  · subst h0
    exact .inr ⟨0, 0, [], rfl, rfl, rfl, by decide, by decide⟩
  · by_cases h1 : ∃ n : Int, -9223372036854775808 ≤ n ∧ n ≤ 9223372036854775807 ∧ l = itoa n
    · obtain ⟨n, h2, h3, rfl⟩ := h1
      exact .inr ⟨1, n, [], readV_itoa n h2 h3, by simp [okV], printV_num n, h2, h3⟩
    · by_cases h2 : ∃ t : List UInt8, t.length ≤ 64 ∧ l = quote t
      · obtain ⟨t, h3, rfl⟩ := h2
        refine .inr ⟨2, 0, t, readV_quote t h3, by simp [okV, h3], ?_, by decide, by decide⟩
        rw [printV_text, if_pos h3]
      · exact .inl (readV_none l h0 (fun n h3 h4 e => h1 ⟨n, h3, h4, e⟩) (fun t h3 e => h2 ⟨t, h3, e⟩))
end Go.Proofs.YtnejbilnhebphaaDoor.Val
