/- What a store keeps under any list of puts, plain. -/
import Derived.Test.YtphenpncdhgdhaaPutW
namespace Go.Proofs.Ytphenpncdhgdhaa.Ver
open Go.Proofs.Ytphenpncdhgdhaa.Str
set_option linter.unusedVariables false
set_option linter.unusedSimpArgs false
/-- What n puts leave. -/
structure Kept (rows : List Rw) (n : Nat) : Prop where
  rises : Rises rows
  full : Full rows
  len : rows.length ≤ n
  each : ∀ r ∈ rows, r.vs.length ≤ n ∧ r.key.size ≤ 140737488351232
theorem kept_nil : Kept [] 0 := ⟨List.Pairwise.nil, fun r h => by simp at h, Nat.le_refl _, fun r h => by simp at h⟩
theorem kept_mono {rows : List Rw} {n m : Nat} (h : Kept rows n) (hm : n ≤ m) : Kept rows m := ⟨h.rises, h.full, Nat.le_trans h.len hm, fun r hr => ⟨Nat.le_trans (h.each r hr).1 hm, (h.each r hr).2⟩⟩
theorem kept_put {rows : List Rw} {n : Nat} (h : Kept rows n) (k : ByteArray) (hk : k.size ≤ 140737488351232) (v : Vn) : Kept (put rows k v) (n + 1) := by
  have hm := kept_mono h (Nat.le_succ n)
  refine ⟨put_rises rows h.rises k v, put_full rows h.rises h.full k v, ?_, ?_⟩
  · unfold put
    by_cases h0 : putErr rows k v = 0
    · rw [if_pos h0]
      cases ht : there rows k with
      | true =>
        obtain ⟨A, B, vs, e, hl, h1, h2⟩ := there_split rows h.rises k ht
        rw [putRows_there rows k v ht e hl]
        have := hm.len
        rw [e] at this
        simpa using this
      | false =>
        rw [putRows_new rows k v ht]
        have := h.len
        have := lb_le rows k
        rw [List.length_append, List.length_cons, List.length_take, List.length_drop]
        omega
    · rw [if_neg h0]; exact hm.len
  · unfold put
    by_cases h0 : putErr rows k v = 0
    · rw [if_pos h0]
      cases ht : there rows k with
      | true =>
        obtain ⟨A, B, vs, e, hl, h1, h2⟩ := there_split rows h.rises k ht
        rw [putRows_there rows k v ht e hl]
        intro r hr
        have hin : ∀ r ∈ A ++ ⟨k, vs⟩ :: B, r.vs.length ≤ n + 1 ∧ r.key.size ≤ 140737488351232 := fun r hr => hm.each r (by rw [e]; exact hr)
        rcases List.mem_append.1 hr with hr | hr
        · exact hin r (by simp [hr])
        · rcases List.mem_cons.1 hr with rfl | hr
          · have := (h.each ⟨k, vs⟩ (by rw [e]; simp)).1
            exact ⟨by simpa using this, hk⟩
          · exact hin r (by simp [hr])
      | false =>
        rw [putRows_new rows k v ht]
        intro r hr
        rcases List.mem_append.1 hr with hr | hr
        · exact hm.each r (List.mem_of_mem_take hr)
        · rcases List.mem_cons.1 hr with rfl | hr
          · exact ⟨by simp, hk⟩
          · exact hm.each r (List.mem_of_mem_drop hr)
    · rw [if_neg h0]; exact hm.each
end Go.Proofs.Ytphenpncdhgdhaa.Ver
