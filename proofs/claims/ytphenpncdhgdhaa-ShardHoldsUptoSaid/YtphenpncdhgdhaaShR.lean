/- The shard, plain: what is held by a transaction that has read. -/
import Derived.Test.YtphenpncdhgdhaaShQ
namespace Go.Proofs.Ytphenpncdhgdhaa.Shd
open Go.Proofs.Ytphenpncdhgdhaa.Str Go.Proofs.Ytphenpncdhgdhaa.Ver Go.Proofs.Ytphenpncdhgdhaa.Sl
set_option linter.unusedVariables false
set_option linter.unusedSimpArgs false
theorem span_other {rows : List Rw} (h : Rises rows) (k : ByteArray) (v : Vn) (a b : ByteArray) (ts : Int) (hi : inside k a b = false) : span (put rows k v) a b ts = span rows a b ts := by
  unfold put
  by_cases h0 : putErr rows k v = 0
  · rw [if_pos h0]
    cases ht : there rows k with
    | true =>
      obtain ⟨A, B, vs, e, hl, h1, h2⟩ := there_split rows h k ht
      rw [putRows_there rows k v ht e hl]
      conv => rhs; rw [e]
      unfold span
      simp only [List.filter_append, List.filter_cons, List.filterMap_append, hi, if_false, Bool.false_eq_true]
    | false =>
      rw [putRows_new rows k v ht]
      conv => rhs; rw [← List.take_append_drop (lb rows k) rows]
      unfold span
      simp only [List.filter_append, List.filter_cons, List.filterMap_append, hi, if_false, Bool.false_eq_true]
  · rw [if_neg h0]
theorem span_puts {ts : Int} {a b : ByteArray} : ∀ (ws : List Wr) {rows : List Rw} (h : Rises rows) (hw : ∀ w ∈ ws, inside w.key a b = false), span (ws.foldl (fun r w => put r w.key ⟨ts, w.val, w.dead⟩) rows) a b ever = span rows a b ever
  | [], rows, h, hw => rfl
  | w :: ws, rows, h, hw => by
    rw [List.foldl_cons, span_puts ws (put_rises rows h _ _) (fun x hx => hw x (.tail _ hx))]
    exact span_other h _ _ _ _ _ (hw w (.head _))
theorem span_putW {ts : Int} {a b : ByteArray} (ws : List Wr) {rows : List Rw} (h : Rises rows) (hw : ∀ w ∈ ws, inside w.key a b = false) : span (putW ts rows ws) a b ever = span rows a b ever := by
  unfold putW
  split
  · exact span_puts ws h hw
  · rfl
/-- A transaction holds a span. -/
structure Hld (m : Sh) (t : Td) (a b : ByteArray) : Prop where
  lock : ∃ l ∈ m.lks, l.t = t ∧ (⟨a, b⟩ : Sp) ∈ l.sps ∧ l.wrs = []
  free : ∀ l ∈ m.lks, ∀ w ∈ l.wrs, inside w.key a b = false
theorem lk_eq {lks : List Lk} {t : Td} {l : Lk} (h : lks[lkN lks t]? = some l) : l.t = t := by
  induction lks with
  | nil => simp at h
  | cons p r ih =>
    by_cases hp : p.t = t
    · have : lkN (p :: r) t = 0 := by simp [lkN, hp]
      rw [this] at h
      simp only [List.getElem?_cons_zero, Option.some.injEq] at h
      rw [← h]; exact hp
    · have e1 : lkN (p :: r) t = lkN r t + 1 := by simp [lkN, hp]
      rw [e1] at h
      exact ih (by simpa using h)
theorem mem_erase {α : Type} {l : List α} {i : Nat} {x y : α} (hx : x ∈ l) (hy : l[i]? = some y) (hne : x ≠ y) : x ∈ l.eraseIdx i := by
  obtain ⟨hi, e⟩ := List.getElem?_eq_some_iff.1 hy
  rw [List.eraseIdx_eq_take_drop_succ]
  have h1 : l = l.take i ++ l[i] :: l.drop (i + 1) := by rw [← List.drop_eq_getElem_cons hi, List.take_append_drop]
  rw [h1] at hx
  rcases List.mem_append.1 hx with h | h
  · exact List.mem_append_left _ h
  · rcases List.mem_cons.1 h with h | h
    · exact absurd (h.trans e) hne
    · exact List.mem_append_right _ h
theorem hld_do {m : Sh} (hr : Rises m.rows) {t : Td} {a b : ByteArray} (h : Hld m t a b) (at_ : Int) (c : Cm) (hc : ¬ (c.kind = 4 ∧ c.t = t)) :
    Hld (doP m at_ c).1 t a b ∧ span (doP m at_ c).1.rows a b ever = span m.rows a b ever := by
  obtain ⟨⟨l, hl, hlt, hsp, hlw⟩, hf⟩ := h
  have same : Hld m t a b := ⟨⟨l, hl, hlt, hsp, hlw⟩, hf⟩
  unfold doP
  split
  · unfold prepP
    split
    · exact ⟨same, rfl⟩
    · split
      · exact ⟨same, rfl⟩
      · split
        · split
          · rename_i hw
            refine ⟨⟨⟨l, List.mem_append_left _ hl, hlt, hsp, hlw⟩, fun q hq w hwq => ?_⟩, rfl⟩
            rcases List.mem_append.1 hq with hq | hq
            · exact hf q hq w hwq
            · rw [List.mem_singleton.1 hq] at hwq
              have h1 := write_ok (firstR_ok hw w hwq) l hl
              unfold meets at h1
              rw [Bool.or_eq_false_iff, List.any_eq_false, List.any_eq_false] at h1
              have := h1.2 _ hsp
              simpa using this
          · exact ⟨same, rfl⟩
        · exact ⟨same, rfl⟩
  · split
    · unfold commitP
      split
      · exact ⟨same, rfl⟩
      · split <;> exact ⟨⟨⟨l, hl, hlt, hsp, hlw⟩, hf⟩, rfl⟩
    · split
      · unfold abortP
        split
        · exact ⟨same, rfl⟩
        · exact ⟨⟨⟨l, hl, hlt, hsp, hlw⟩, hf⟩, rfl⟩
      · split
        · rename_i h4
          have hct : c.t ≠ t := fun e => hc ⟨h4, e⟩
          unfold resolveP
          split
          · exact ⟨same, rfl⟩
          · refine ⟨⟨?_, fun q hq w hwq => hf q (List.mem_of_mem_eraseIdx hq) w hwq⟩, ?_⟩
            · cases hk : m.lks[lkN m.lks c.t]? with
              | none =>
                have : m.lks.length ≤ lkN m.lks c.t := List.getElem?_eq_none_iff.1 hk
                exact ⟨l, by show l ∈ m.lks.eraseIdx _; rw [List.eraseIdx_of_length_le this]; exact hl, hlt, hsp, hlw⟩
              | some q =>
                have hq := lk_eq hk
                exact ⟨l, mem_erase hl hk (fun e => hct (by rw [← hq, ← e]; exact hlt)), hlt, hsp, hlw⟩
            · show span (resRows m c) a b ever = _
              unfold resRows
              split
              · rename_i q hk
                exact span_putW q.wrs hr (fun w hw => hf q (List.mem_of_getElem? hk) w hw)
              · rfl
        · exact ⟨same, rfl⟩
/-- The command that reads a span as it stands. -/
def holdC (t : Td) (a b : ByteArray) (rows : List Rw) : Cm := ⟨1, t, 0, [⟨⟨a, b⟩, (span rows a b ever).map stampOf⟩], [], 0, 0, 0⟩
theorem hold_new {m : Sh} {t : Td} {a b : ByteArray} (at_ : Int) (h : (doP m at_ (holdC t a b m.rows)).2.new = true) :
    Hld (doP m at_ (holdC t a b m.rows)).1 t a b ∧ (doP m at_ (holdC t a b m.rows)).1.rows = m.rows := by
  have e : doP m at_ (holdC t a b m.rows) = prepP m (holdC t a b m.rows) := by unfold doP; exact if_pos rfl
  rw [e] at h ⊢
  unfold prepP at h ⊢
  split at h
  · simp [rs0] at h
  · rename_i h1
    rw [if_neg h1]
    split at h
    · simp [rs0] at h
    · rename_i h2
      rw [if_neg h2]
      split at h
      · rename_i h3
        rw [if_pos h3]
        have h4 : (firstR (writeP m.lks) (holdC t a b m.rows).wrs).err = 0 := rfl
        rw [if_pos h4]
        refine ⟨⟨⟨lockOf (holdC t a b m.rows), List.mem_append_right _ (List.mem_singleton.2 rfl), rfl, List.mem_singleton.2 rfl, rfl⟩, fun l hl w hw => ?_⟩, rfl⟩
        rcases List.mem_append.1 hl with hl | hl
        · have := (read_ok (firstR_ok h3 _ (List.mem_singleton.2 rfl))).1 l hl
          unfold hitsIn at this
          rw [List.any_eq_false] at this
          simpa using this w hw
        · rw [List.mem_singleton.1 hl] at hw
          simp [lockOf, holdC] at hw
      · rename_i h3
        exfalso
        simp only [holdC, firstR] at h
        split at h
        · simp [rs0] at h
        · unfold readP at h
          split at h
          · simp [busyR, rs0] at h
          · rw [if_pos rfl] at h
            simp [rs0] at h
theorem hold_old {m : Sh} {t : Td} {a b : ByteArray} (at_ : Int) (h : (doP m at_ (holdC t a b m.rows)).2.new = false) : (doP m at_ (holdC t a b m.rows)).2.err ≠ 130 := by
  have e : doP m at_ (holdC t a b m.rows) = prepP m (holdC t a b m.rows) := by unfold doP; exact if_pos rfl
  rw [e] at h ⊢
  unfold prepP at h ⊢
  split
  · simp [rs0]
  · split
    · simp [rs0]
    · split
      · rename_i h1 h2 h3
        have h4 : (firstR (writeP m.lks) (holdC t a b m.rows).wrs).err = 0 := rfl
        rw [if_neg h1, if_neg h2, if_pos h3, if_pos h4] at h
        simp at h
      · simp only [holdC, firstR]
        split
        · simp [rs0]
        · unfold readP
          split
          · simp [busyR, rs0]
          · rw [if_pos rfl]
            simp [rs0]
end Go.Proofs.Ytphenpncdhgdhaa.Shd
