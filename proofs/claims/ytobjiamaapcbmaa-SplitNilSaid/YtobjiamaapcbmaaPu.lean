import Derived.Test.YtobjiamaapcbmaaSp6
namespace Go.Proofs.Ytobjiamaapcbmaa.Sp
open Go.RowKit Go.Proofs.YtobjiamaapcbmaaW.PrintWords Go.Proofs.YtobjiamaapcbmaaW.PrintLast Go.Proofs.YtobjiamaapcbmaaW.PrintMore Go.Proofs.Ytobjiamaapcbmaa.Sl PRef Str
set_option linter.unusedVariables false
set_option linter.unusedSimpArgs false
def Sm (b : ByteArray) : Prop := b.size ≤ 140737488355328
theorem cmpS_nil_iff (b : ByteArray) : b.toList = [] ↔ cmpS b ByteArray.empty ≤ 0 := by
  constructor
  · intro h
    have : b = ByteArray.empty := ext _ _ (by rw [h, toList_eq]; rfl)
    rw [this, cmpS_self]; omega
  · intro h
    rw [cmpS_empty b h, toList_eq]; rfl
theorem empty_le (b : ByteArray) : cmpS ByteArray.empty b ≤ 0 := by
  have h := cmpS_swap b ByteArray.empty
  have h1 := cmpS_range b ByteArray.empty
  rcases Int.lt_trichotomy (cmpS b ByteArray.empty) 0 with h2 | h2 | h2
  · have := cmpS_empty b (by omega)
    rw [this, cmpS_self] at h2
    omega
  · omega
  · omega
theorem rd_nat (l : List ByteArray) (i : Nat) : rdOf ByteArray.empty l (i : Int) = l.getD i ByteArray.empty := rfl
theorem rd_pred (l : List ByteArray) (i : Nat) (h : 0 < i) (hi : i ≤ 140737488355328) : wrap64 ((i : Int) - 1) = ((i - 1 : Nat) : Int) := by
  unfold wrap64; omega
theorem getD_mem (l : List ByteArray) (i : Nat) (h : i < l.length) : l.getD i ByteArray.empty ∈ l := by
  rw [List.getD_eq_getElem?_getD, List.getElem?_eq_getElem h]
  exact List.getElem_mem h
theorem drop_one (l : List ByteArray) (i : Nat) (h : i < l.length) : l.drop i = l.getD i ByteArray.empty :: l.drop (i + 1) := by
  rw [List.drop_eq_getElem_cons h, List.getD_eq_getElem?_getD, List.getElem?_eq_getElem h]; rfl
theorem right_at (l : List ByteArray) (hl : l.length < 4) (hs : ∀ b ∈ l, Sm b) : ∀ (d i k : Nat), l.length - i = d → d + 281474976710700 ≤ k → i ≤ l.length →
    lintelref14_Right.l0 k l (i : Int) = some (okB (if 0 < i then l.getD (i - 1) ByteArray.empty else ByteArray.empty) (l.drop i)) := by
  intro d
  induction d with
  | zero =>
    intro i k hd hk hi
    obtain ⟨k, rfl⟩ : ∃ m, k = m + 1 := ⟨k - 1, by omega⟩
    simp only [lintelref14_Right.l0]
    rw [if_neg (by omega), List.drop_eq_nil_of_le (by omega)]
    rfl
  | succ d ih =>
    intro i k hd hk hi
    obtain ⟨k, rfl⟩ : ∃ m, k = m + 1 := ⟨k - 1, by omega⟩
    have hlt : i < l.length := by omega
    have ih' := ih (i + 1) k (by omega) (by omega) (by omega)
    rw [if_pos (by omega), Nat.add_sub_cancel] at ih'
    have hw : wrap64 ((i : Int) + 1) = ((i + 1 : Nat) : Int) := by unfold wrap64; omega
    simp only [lintelref14_Right.l0]
    rw [if_pos (by omega), if_pos (by omega), rd_nat, hw, drop_one l i hlt]
    have hb := hs _ (getD_mem l i hlt)
    generalize l.getD i ByteArray.empty = b at ih' hb ⊢
    simp only [okB, leq_s]
    by_cases he : b.toList = []
    · rw [if_pos he]
      have : b = ByteArray.empty := cmpS_empty b ((cmpS_nil_iff b).1 he)
      subst this
      rw [decide_eq_true (empty_le _)]
      rfl
    · rw [if_neg he]
      have hne : ¬ cmpS b ByteArray.empty ≤ 0 := fun h => he ((cmpS_nil_iff b).2 h)
      by_cases h0 : 0 < i
      · rw [if_pos (by omega), rd_pred l i h0 (by omega), if_pos (by omega), if_pos (by omega), rd_nat, Stands.stands _ _ (hs _ (getD_mem l (i - 1) (by omega))) k (by have := hs _ (getD_mem l (i - 1) (by omega)); unfold Sm at this; omega)]
        simp only [Option.bind_some]
        rw [if_pos h0]
        generalize l.getD (i - 1) ByteArray.empty = a
        have h1 := cmpS_swap a b
        by_cases h2 : cmpS a b ≥ 0
        · rw [if_pos h2, decide_eq_true (by omega)]; rfl
        · rw [if_neg h2, decide_eq_false (by omega), ih']; rfl
      · rw [if_neg (by omega), if_neg h0, decide_eq_false hne, ih']; rfl
theorem right_calls (A : Option Addr) (c : Nat) (l : List ByteArray) (hs : ∀ b ∈ l, Sm b) (hc : l.length ≤ c) (w : World) (hr : Kd.C Kd.string w A l.length l) :
    Calls Try.prog 9 #[.slice A l.length c] w fun e w' => e = .returned (.bool (newOk l)) ∧ Drawn0 w w' := by
  refine lintelref14_Right.calls (l.length + 281474976710700) A c l (newOk l) w hr hc ?_
  unfold lintelref14_Right.f newOk
  by_cases h4 : l.length < 4
  · rw [if_neg (by omega), decide_eq_true h4]
    have := right_at l h4 hs l.length 0 (l.length + 281474976710700) (by omega) (by omega) (by omega)
    simpa using this
  · rw [if_pos (by omega), decide_eq_false h4]; rfl
end Go.Proofs.Ytobjiamaapcbmaa.Sp
