import Derived.Test.YtobjiamaapcbmaaL4
namespace Go.Proofs.Ytobjiamaapcbmaa.Sp
open Go.RowKit Go.Proofs.YtobjiamaapcbmaaW.PrintWords Go.Proofs.YtobjiamaapcbmaaW.PrintLast Go.Proofs.YtobjiamaapcbmaaW.PrintMore Go.Proofs.Ytobjiamaapcbmaa.Sl PRef Str
set_option linter.unusedVariables false
set_option linter.unusedSimpArgs false
theorem ref_j3 (l : List ByteArray) (xs : List S39) (i : Nat) (f t f' t' : ByteArray) (k : Nat) (c : Bool) (hl : l.length ≤ 1000) (hx : xs.length ≤ 1000) (hf : Sm f') (hk : 281474976710700 ≤ k) (hc : c = true → i < l.length) (hi : i ≤ l.length) :
    lintelref14_Parts.j3 (k + 1) l xs (i : Int) c f t f' t' = lintelref14_Parts.l0 k l (xs ++ (if cmpS f' (if c = true then l.getD i ByteArray.empty else t') < 0 then [⟨i, ⟨f', if c = true then l.getD i ByteArray.empty else t'⟩⟩] else [])) ((i + 1 : Nat) : Int) f t := by
  have hw : wrap64 ((i : Int) + 1) = ((i + 1 : Nat) : Int) := by unfold wrap64; omega
  simp only [lintelref14_Parts.j3]
  cases c with
  | true =>
    have := hc rfl
    simp only [if_true]
    rw [if_pos (by omega), if_pos (by omega), rd_nat, Stands.stands _ _ hf k (by unfold Sm at hf; omega), hw]
    simp only [Option.bind_some]
    by_cases h : cmpS f' (l.getD i ByteArray.empty) < 0
    · rw [if_pos h, if_pos h, if_pos (by omega)]
    · rw [if_neg h, if_neg h, List.append_nil]
  | false =>
    simp only [Bool.false_eq_true, if_false]
    rw [Stands.stands _ _ hf k (by unfold Sm at hf; omega), hw]
    simp only [Option.bind_some]
    by_cases h : cmpS f' t' < 0
    · rw [if_pos h, if_pos h, if_pos (by omega)]
    · rw [if_neg h, if_neg h, List.append_nil]
theorem sm_empty : Sm ByteArray.empty := Nat.zero_le _
theorem ref_round (l : List ByteArray) (xs : List S39) (i : Nat) (p : S34) (k : Nat) (hl : l.length ≤ 1000) (hx : xs.length ≤ 1000) (hf : Sm p.f0) (ht : Sm p.f1) (hs : ∀ b ∈ l, Sm b) (hk : 281474976710700 ≤ k) (hi : i ≤ l.length) :
    lintelref14_Parts.l0 (k + 4) l xs (i : Int) p.f0 p.f1 = lintelref14_Parts.l0 k l (xs ++ (if Op.bytesLess (partF l p i).f0.toList (partF l p i).f1.toList = true then [⟨i, partF l p i⟩] else [])) ((i + 1 : Nat) : Int) p.f0 p.f1 := by
  have hsm : ∀ i, Sm (l.getD i ByteArray.empty) := fun i => by
    rcases Nat.lt_or_ge i l.length with h | h
    · exact hs _ (getD_mem l i h)
    · rw [List.getD_eq_getElem?_getD, List.getElem?_eq_none h]; exact sm_empty
  have hpart : partF l p i = ⟨if 0 < i then (if cmpS p.f0 (l.getD (i - 1) ByteArray.empty) < 0 then l.getD (i - 1) ByteArray.empty else p.f0) else p.f0, if i < l.length then (if cmpS p.f1 (l.getD i ByteArray.empty) > 0 then l.getD i ByteArray.empty else p.f1) else p.f1⟩ := by
    unfold partF
    rw [maxS_cmp, minS_cmp]
  have h2 : ∀ f', Sm f' → f' = (partF l p i).f0 → lintelref14_Parts.j2 (k + 2) l xs (i : Int) p.f0 p.f1 f' p.f1 = lintelref14_Parts.l0 k l (xs ++ (if Op.bytesLess (partF l p i).f0.toList (partF l p i).f1.toList = true then [⟨i, partF l p i⟩] else [])) ((i + 1 : Nat) : Int) p.f0 p.f1 := by
    intro f' hf' hfe
    simp only [lintelref14_Parts.j2]
    have e1 : (partF l p i).f1 = if i < l.length then (if cmpS p.f1 (l.getD i ByteArray.empty) > 0 then l.getD i ByteArray.empty else p.f1) else p.f1 := by rw [hpart]
    have e0 : ∀ t', t' = (partF l p i).f1 → (xs ++ (if cmpS f' t' < 0 then [(⟨i, ⟨f', t'⟩⟩ : S39)] else [])) = (xs ++ (if Op.bytesLess (partF l p i).f0.toList (partF l p i).f1.toList = true then [⟨i, partF l p i⟩] else [])) := by
      intro t' ht'
      subst ht'
      rw [less_s, ← hfe]
      simp only [decide_eq_true_eq]
      have e2 : (⟨f', (partF l p i).f1⟩ : S34) = partF l p i := by rw [hfe]
      rw [e2]
    by_cases h1 : i < l.length
    · rw [if_pos h1] at e1
      rw [if_pos (by omega), if_pos (by omega), rd_nat, Stands.stands _ _ ht (k + 1) (by unfold Sm at ht; omega)]
      simp only [Option.bind_some]
      rw [ref_j3 l xs i _ _ f' p.f1 k _ hl hx hf' hk (fun _ => h1) hi, e0]
      rw [e1]
      by_cases h3 : cmpS p.f1 (l.getD i ByteArray.empty) > 0
      · rw [if_pos h3, if_pos (decide_eq_true h3)]
      · rw [if_neg h3, if_neg (by simpa using h3)]
    · rw [if_neg h1] at e1
      rw [if_neg (by omega), ref_j3 l xs i _ _ f' p.f1 k _ hl hx hf' hk (fun h => by cases h) hi, e0]
      rw [e1]; rfl
  have h1 : ∀ c : Bool, (c = true → 0 < i) → (if c = true then l.getD (i - 1) ByteArray.empty else p.f0) = (partF l p i).f0 → lintelref14_Parts.j1 (k + 3) l xs (i : Int) c p.f0 p.f1 p.f0 p.f1 = lintelref14_Parts.l0 k l (xs ++ (if Op.bytesLess (partF l p i).f0.toList (partF l p i).f1.toList = true then [⟨i, partF l p i⟩] else [])) ((i + 1 : Nat) : Int) p.f0 p.f1 := by
    intro c hc he
    simp only [lintelref14_Parts.j1]
    cases c with
    | true =>
      have h0 := hc rfl
      simp only [if_true] at he ⊢
      rw [rd_pred l i h0 (by omega), if_pos (by omega), if_pos (by omega), rd_nat]
      exact h2 _ (hsm _) he
    | false =>
      simp only [Bool.false_eq_true, if_false] at he ⊢
      exact h2 _ hf he
  have e0 : (partF l p i).f0 = if 0 < i then (if cmpS p.f0 (l.getD (i - 1) ByteArray.empty) < 0 then l.getD (i - 1) ByteArray.empty else p.f0) else p.f0 := by rw [hpart]
  simp only [lintelref14_Parts.l0]
  rw [if_pos (by omega)]
  by_cases h0 : 0 < i
  · rw [if_pos h0] at e0
    rw [if_pos (by omega), rd_pred l i h0 (by omega), if_pos (by omega), if_pos (by omega), rd_nat, Stands.stands _ _ hf (k + 3) (by unfold Sm at hf; omega)]
    simp only [Option.bind_some]
    refine h1 _ (fun _ => h0) ?_
    rw [e0]
    by_cases h3 : cmpS p.f0 (l.getD (i - 1) ByteArray.empty) < 0
    · rw [if_pos h3, if_pos (decide_eq_true h3)]
    · rw [if_neg h3, if_neg (by simpa using h3)]
  · rw [if_neg h0] at e0
    rw [if_neg (by omega)]
    exact h1 _ (fun h => by cases h) (by rw [e0]; rfl)
theorem ref_parts (l : List ByteArray) (p : S34) (hl : l.length ≤ 900) (hf : Sm p.f0) (ht : Sm p.f1) (hs : ∀ b ∈ l, Sm b) : ∀ (d i : Nat), l.length + 1 - i = d → i ≤ l.length + 1 →
    lintelref14_Parts.l0 (281474976710700 + 4 * d + 1) l (partsTo l p i) (i : Int) p.f0 p.f1 = some (partsTo l p (l.length + 1)) := by
  intro d
  induction d with
  | zero =>
    intro i hd hi
    obtain rfl : i = l.length + 1 := by omega
    simp only [lintelref14_Parts.l0]
    rw [if_neg (by omega)]
  | succ d ih =>
    intro i hd hi
    have hlen := partsTo_le l p i
    rw [show 281474976710700 + 4 * (d + 1) + 1 = 281474976710700 + 4 * d + 1 + 4 by omega, ref_round l (partsTo l p i) i p _ (by omega) (by omega) hf ht hs (by omega) (by omega)]
    exact ih (i + 1) (by omega) (by omega)
theorem ref_parts_calls (A : Option Addr) (c : Nat) (l : List ByteArray) (p : S34) (hl : l.length ≤ 900) (hf : Sm p.f0) (ht : Sm p.f1) (hs : ∀ b ∈ l, Sm b) (hc : l.length ≤ c) (w : World) (hr : Kd.C Kd.string w A l.length l) :
    Calls Try.prog 15 #[.slice A l.length c, .agg #[.string p.f0, .string p.f1]] w fun e w' => ∃ v0_ : Value, e = .returned (v0_) ∧ Kd.R k39 39 w' w.heap.size (fun _ => True) v0_ (partsTo l p (l.length + 1)) ∧ Below w.heap.size w w' :=
  lintelref14_Parts.calls (281474976710700 + 4 * (l.length + 1) + 1) A c l p.f0 p.f1 _ w hr hc (ref_parts l p hl hf ht hs (l.length + 1) 0 (by omega) (by omega))
end Go.Proofs.Ytobjiamaapcbmaa.Sp
