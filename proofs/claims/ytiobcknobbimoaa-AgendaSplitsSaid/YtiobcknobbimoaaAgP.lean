/- A heap of things: plain. -/
namespace Go.Proofs.Ytiobcknobbimoaa.Ag
set_option linter.unusedVariables false
set_option linter.unusedSimpArgs false
structure It where
  what : Int
  due : Int
  turn : Int
  g : Nat
instance : Inhabited It := ⟨⟨0, 0, 0, 0⟩⟩
/-- Which comes first? -/
def LtI (x y : It) : Prop := x.due < y.due ∨ x.due = y.due ∧ x.turn < y.turn
instance (x y : It) : Decidable (LtI x y) := by unfold LtI; exact inferInstance
theorem nlt_trans {x y z : It} (h1 : ¬ LtI y x) (h2 : ¬ LtI z y) : ¬ LtI z x := by unfold LtI at *; omega
theorem lt_nlt {x y : It} (h : LtI x y) : ¬ LtI y x := by unfold LtI at *; omega
theorem nlt_self (x : It) : ¬ LtI x x := by unfold LtI; omega
theorem lt_nlt_trans {x y z : It} (h1 : LtI x y) (h2 : ¬ LtI z y) : ¬ LtI z x := nlt_trans (lt_nlt h1) h2
/-- What stands at a place. -/
def at_ (q : List It) (k : Nat) : It := q.getD k default
theorem at_get (q : List It) (k : Nat) (h : k < q.length) : at_ q k = q[k] := by simp [at_, List.getD_eq_getElem?_getD, List.getElem?_eq_getElem h]
def swapL (q : List It) (i j : Nat) : List It := (q.set i (at_ q j)).set j (at_ q i)
theorem swapL_length (q : List It) (i j : Nat) : (swapL q i j).length = q.length := by simp [swapL]
theorem at_swap (q : List It) (i j k : Nat) (hi : i < q.length) (hj : j < q.length) : at_ (swapL q i j) k = if k = j then at_ q i else if k = i then at_ q j else at_ q k := by
  unfold swapL
  by_cases h1 : k = j
  · subst h1
    rw [if_pos rfl]
    simp [at_, List.getD_eq_getElem?_getD, List.getElem?_set, hi, hj]
  · rw [if_neg h1]
    by_cases h2 : k = i
    · subst h2
      rw [if_pos rfl]
      simp [at_, List.getD_eq_getElem?_getD, List.getElem?_set, hi, hj, Ne.symm h1]
    · rw [if_neg h2]
      simp [at_, List.getD_eq_getElem?_getD, List.getElem?_set, Ne.symm h1, Ne.symm h2]
theorem perm_front (q : List It) (i : Nat) (h : i < q.length) : q.Perm (q[i] :: q.eraseIdx i) := by
  conv => lhs; rw [← List.take_append_drop i q]
  rw [List.drop_eq_getElem_cons h, List.eraseIdx_eq_take_drop_succ]
  exact List.perm_middle
theorem set_front (q : List It) (i : Nat) (x : It) (h : i < q.length) : (q.set i x).Perm (x :: q.eraseIdx i) := by
  have h1 := perm_front (q.set i x) i (by simpa using h)
  rw [List.getElem_set_self, List.eraseIdx_set_eq] at h1
  exact h1
theorem swapL_perm (q : List It) (i j : Nat) (hi : i < q.length) (hj : j < q.length) (hne : i ≠ j) : (swapL q i j).Perm q := by
  have e1 := perm_front q i hi
  unfold swapL
  rw [at_get q i hi, at_get q j hj]
  have h2 := set_front (q.set i q[j]) j q[i] (by simpa using hj)
  have h3 := perm_front (q.set i q[j]) j (by simpa using hj)
  rw [List.getElem_set_ne hne] at h3
  have h4 := set_front q i q[j] hi
  have h5 := List.Perm.cons_inv (h3.symm.trans h4)
  exact (h2.trans (h5.cons _)).trans e1.symm
/-- The edge from a place to the one above it is right. -/
def Edge (q : List It) (k : Nat) : Prop := ¬ LtI (at_ q k) (at_ q ((k - 1) / 2))
def HeapN (q : List It) (n : Nat) : Prop := ∀ k, 0 < k → k < n → Edge q k
/-- A heap but for what stands at j, which may be too low. -/
structure UpInv (q : List It) (j n : Nat) : Prop where
  edge : ∀ k, 0 < k → k < n → k ≠ j → Edge q k
  grand : ∀ c, 0 < c → c < n → (c - 1) / 2 = j → 0 < j → ¬ LtI (at_ q c) (at_ q ((j - 1) / 2))
theorem up_done {q : List It} {j n : Nat} (h : UpInv q j n) (hd : j = 0 ∨ Edge q j) : HeapN q n := by
  intro k h0 hk
  by_cases e : k = j
  · subst e
    rcases hd with h1 | h1
    · omega
    · exact h1
  · exact h.edge k h0 hk e
theorem up_step {q : List It} {j n : Nat} (h : UpInv q j n) (hn : n ≤ q.length) (hj0 : 0 < j) (hj : j < n) (hlt : LtI (at_ q j) (at_ q ((j - 1) / 2))) : UpInv (swapL q ((j - 1) / 2) j) ((j - 1) / 2) n := by
  have hi : (j - 1) / 2 < q.length := by omega
  have hjl : j < q.length := by omega
  have hat := fun k => at_swap q ((j - 1) / 2) j k hi hjl
  have hne : (j - 1) / 2 ≠ j := by omega
  refine ⟨fun k h0 hk hkj => ?_, fun c h0 hc hcj hi0 => ?_⟩
  · unfold Edge
    by_cases e : k = j
    · subst e
      rw [hat k, if_pos rfl, hat ((k - 1) / 2), if_neg (by omega), if_pos rfl]
      exact lt_nlt hlt
    · rw [hat k, if_neg e, if_neg hkj]
      by_cases e2 : (k - 1) / 2 = j
      · rw [e2, hat j, if_pos rfl]
        exact h.grand k h0 hk e2 hj0
      · by_cases e3 : (k - 1) / 2 = (j - 1) / 2
        · rw [e3, hat ((j - 1) / 2), if_neg (by omega), if_pos rfl]
          have h1 := h.edge k h0 hk e
          unfold Edge at h1
          rw [e3] at h1
          exact lt_nlt_trans hlt h1
        · rw [hat ((k - 1) / 2), if_neg e2, if_neg e3]
          exact h.edge k h0 hk e
  · have hpi := h.edge ((j - 1) / 2) hi0 (by omega) (by omega)
    unfold Edge at hpi
    rw [hat (((j - 1) / 2 - 1) / 2), if_neg (by omega), if_neg (by omega)]
    by_cases e : c = j
    · subst e
      rw [hat c, if_pos rfl]
      exact hpi
    · rw [hat c, if_neg e, if_neg (by omega)]
      have h1 := h.edge c h0 hc e
      unfold Edge at h1
      rw [hcj] at h1
      exact nlt_trans hpi h1
/-- A heap but for what stands at i, which may be too high; it began at i0, where it may be too low. -/
structure DownInv (q : List It) (i i0 n : Nat) : Prop where
  edge : ∀ k, 0 < k → k < n → (k - 1) / 2 ≠ i → ¬ (k = i0 ∧ i = i0) → Edge q k
  grand : ∀ c, 0 < c → c < n → (c - 1) / 2 = i → 0 < i → ¬ LtI (at_ q c) (at_ q ((i - 1) / 2))
  le : i0 ≤ i
theorem down_done {q : List It} {i i0 n : Nat} (h : DownInv q i i0 n) (hd : ∀ c, 0 < c → c < n → (c - 1) / 2 = i → Edge q c) : (i = i0 → UpInv q i0 n) ∧ (i ≠ i0 → HeapN q n) := by
  refine ⟨fun e => ?_, fun e k h0 hk => ?_⟩
  · subst e
    refine ⟨fun k h0 hk hki => ?_, fun c h0 hc hci hi0 => h.grand c h0 hc hci hi0⟩
    by_cases e1 : (k - 1) / 2 = i
    · exact hd k h0 hk e1
    · exact h.edge k h0 hk e1 (fun h => hki h.1)
  · by_cases e1 : (k - 1) / 2 = i
    · exact hd k h0 hk e1
    · exact h.edge k h0 hk e1 (fun h => e h.2)
theorem down_step {q : List It} {i i0 n j : Nat} (h : DownInv q i i0 n) (hn : n ≤ q.length) (hj : j < n) (hj0 : 0 < j) (hji : (j - 1) / 2 = i) (hlt : LtI (at_ q j) (at_ q i)) (hmin : ∀ c, 0 < c → c < n → (c - 1) / 2 = i → ¬ LtI (at_ q c) (at_ q j)) : DownInv (swapL q i j) j i0 n := by
  have hil : i < q.length := by omega
  have hjl : j < q.length := by omega
  have hat := fun k => at_swap q i j k hil hjl
  have hle := h.le
  refine ⟨fun k h0 hk hkj hk0 => ?_, fun c h0 hc hcj hj0 => ?_, by omega⟩
  · unfold Edge
    by_cases e : k = j
    · subst e
      rw [hat k, if_pos rfl, hji, hat i, if_neg (by omega), if_pos rfl]
      exact lt_nlt hlt
    · rw [hat k, if_neg e]
      by_cases e2 : k = i
      · subst e2
        rw [if_pos rfl, hat ((k - 1) / 2), if_neg (by omega), if_neg (by omega)]
        exact h.grand j hj0 hj hji h0
      · rw [if_neg e2, hat ((k - 1) / 2), if_neg hkj]
        by_cases e3 : (k - 1) / 2 = i
        · rw [if_pos e3]
          exact hmin k h0 hk e3
        · rw [if_neg e3]
          exact h.edge k h0 hk e3 (fun h => e2 (by omega))
  · rw [hat c, if_neg (by omega), if_neg (by omega), hji, hat i, if_neg (by omega), if_pos rfl]
    have h1 := h.edge c h0 hc (by omega) (by omega)
    unfold Edge at h1
    rw [hcj] at h1
    exact h1
/-- The first of a heap comes first. -/
theorem heap_first {q : List It} {n : Nat} (h : HeapN q n) : ∀ k, k < n → ¬ LtI (at_ q k) (at_ q 0) := by
  intro k
  induction k using Nat.strongRecOn with
  | ind k ih =>
    intro hk
    by_cases h0 : k = 0
    · subst h0
      exact nlt_self _
    · exact nlt_trans (ih ((k - 1) / 2) (by omega) (by omega)) (h k (by omega) hk)
end Go.Proofs.Ytiobcknobbimoaa.Ag
