/- What a store keeps under any list of puts: plain; the loop's element, read. -/
import Derived.Test.YtepenfgeeggjmaaNilV
namespace Go.Proofs.Ytepenfgeeggjmaa.Ver
open Go.RowKit Go.Proofs.YtepenfgeeggjmaaW.PrintWords Go.Proofs.YtepenfgeeggjmaaW.PrintLast Go.Proofs.YtepenfgeeggjmaaW.PrintMore Go.Proofs.Ytepenfgeeggjmaa.Sl Go.Proofs.Ytepenfgeeggjmaa.Str Go.Proofs.Ytepenfgeeggjmaa.Row
set_option linter.unusedVariables false
set_option linter.unusedSimpArgs false
/-- What n puts leave. -/
structure Kept (rows : List Rw) (n : Nat) : Prop where
  rises : Rises rows
  full : Full rows
  len : rows.length ≤ n
  each : ∀ r ∈ rows, r.vs.length ≤ n ∧ r.key.size ≤ 140737488351232
theorem kept_nil : Kept [] 0 := ⟨List.Pairwise.nil, fun r h => by simp at h, Nat.le_refl _, fun r h => by simp at h⟩
theorem kept_mono {rows : List Rw} {n m : Nat} (h : Kept rows n) (hm : n ≤ m) : Kept rows m := ⟨h.rises, h.full, Nat.le_trans h.len hm, fun r hr => ⟨Nat.le_trans (h.each r hr).1 hm, (h.each r hr).2⟩⟩
theorem kept_put {rows : List Rw} {n : Nat} (h : Kept rows n) (k : ByteArray) (hk : k.size ≤ 140737488351232) (v : Vn) : Kept (put rows k v) (n + 1) := by
  have hm := kept_mono h (Nat.le_succ n)
  refine ⟨put_rises rows h.rises k v, put_full rows h.rises h.full k v, ?_, ?_⟩
  · unfold put
    by_cases h0 : putErr rows k v = 0
    · rw [if_pos h0]
      cases ht : there rows k with
      | true =>
        obtain ⟨A, B, vs, e, hl, h1, h2⟩ := there_split rows h.rises k ht
        rw [putRows_there rows k v ht e hl]
        have := hm.len
        rw [e] at this
        simpa using this
      | false =>
        rw [putRows_new rows k v ht]
        have := h.len
        have := lb_le rows k
        rw [List.length_append, List.length_cons, List.length_take, List.length_drop]
        omega
    · rw [if_neg h0]; exact hm.len
  · unfold put
    by_cases h0 : putErr rows k v = 0
    · rw [if_pos h0]
      cases ht : there rows k with
      | true =>
        obtain ⟨A, B, vs, e, hl, h1, h2⟩ := there_split rows h.rises k ht
        rw [putRows_there rows k v ht e hl]
        intro r hr
        have hin : ∀ r ∈ A ++ ⟨k, vs⟩ :: B, r.vs.length ≤ n + 1 ∧ r.key.size ≤ 140737488351232 := fun r hr => hm.each r (by rw [e]; exact hr)
        rcases List.mem_append.1 hr with hr | hr
        · exact hin r (by simp [hr])
        · rcases List.mem_cons.1 hr with rfl | hr
          · have := (h.each ⟨k, vs⟩ (by rw [e]; simp)).1
            exact ⟨by simpa using this, hk⟩
          · exact hin r (by simp [hr])
      | false =>
        rw [putRows_new rows k v ht]
        intro r hr
        rcases List.mem_append.1 hr with hr | hr
        · exact hm.each r (List.mem_of_mem_take hr)
        · rcases List.mem_cons.1 hr with rfl | hr
          · exact ⟨by simp, hk⟩
          · exact hm.each r (List.mem_of_mem_drop hr)
    · rw [if_neg h0]; exact hm.each
def opVn (x : OpV) : Vn := ⟨x.ts, x.val, x.dead⟩
def puts (rows : List Rw) (l : List OpV) : List Rw := l.foldl (fun r x => put r x.key (opVn x)) rows
theorem puts_take (rows : List Rw) (l : List OpV) (j : Nat) (hj : j < l.length) : puts rows (l.take (j + 1)) = put (puts rows (l.take j)) l[j].key (opVn l[j]) := by
  unfold puts
  rw [List.take_succ_eq_append_getElem hj, List.foldl_append]
  rfl
/-- Puts at later times alone. -/
def laters (ts : Int) (rows : List Rw) (l : List OpV) : List Rw := l.foldl (fun r x => if x.ts > ts then put r x.key (opVn x) else r) rows
theorem laters_take (ts : Int) (rows : List Rw) (l : List OpV) (j : Nat) (hj : j < l.length) : laters ts rows (l.take (j + 1)) = if l[j].ts > ts then put (laters ts rows (l.take j)) l[j].key (opVn l[j]) else laters ts rows (l.take j) := by
  unfold laters
  rw [List.take_succ_eq_append_getElem hj, List.foldl_append]
  rfl
theorem at_Op {w : World} {A : Option Addr} {n : Nat} {xs : List OpV} (h : Kd.C kOp w A n xs) (i : Nat) (hi : i < xs.length) : ∃ ad, A = some ad ∧ w.cell? (ad.add (i * 8)) = some (.int .i64 xs[i].kind) ∧ w.cell? ⟨(ad.add (i * 8)).block, (ad.add (i * 8)).off + 1, none⟩ = some (.string xs[i].key) ∧
    w.cell? ⟨(ad.add (i * 8)).block, (ad.add (i * 8)).off + 2, none⟩ = some (.int .i64 xs[i].ts) ∧ w.cell? ⟨(ad.add (i * 8)).block, (ad.add (i * 8)).off + 3, none⟩ = some (.string xs[i].val) ∧
    w.cell? ⟨(ad.add (i * 8)).block, (ad.add (i * 8)).off + 4, none⟩ = some (.bool xs[i].dead) ∧ w.cell? ⟨(ad.add (i * 8)).block, (ad.add (i * 8)).off + 5, none⟩ = some (.string xs[i].fr) ∧
    w.cell? ⟨(ad.add (i * 8)).block, (ad.add (i * 8)).off + 6, none⟩ = some (.string xs[i].upto) ∧ w.cell? ⟨(ad.add (i * 8)).block, (ad.add (i * 8)).off + 7, none⟩ = some (.int .i64 xs[i].at_) := by
  obtain ⟨ad, e, hc⟩ := h.2.2 (by have := h.1; omega)
  obtain ⟨c, _, hK, hc0⟩ := hc i xs[i] (List.getElem?_eq_getElem hi)
  have hc : ∀ j u, c[j]? = some u → w.cell? (ad.add (i * 8 + j)) = some u := hc0
  obtain rfl := kOp_open hK
  exact ⟨ad, e, hc 0 _ rfl, by rw [← add_field _ _ 1 (by omega)]; exact hc 1 _ rfl, by rw [← add_field _ _ 2 (by omega)]; exact hc 2 _ rfl, by rw [← add_field _ _ 3 (by omega)]; exact hc 3 _ rfl, by rw [← add_field _ _ 4 (by omega)]; exact hc 4 _ rfl,
    by rw [← add_field _ _ 5 (by omega)]; exact hc 5 _ rfl, by rw [← add_field _ _ 6 (by omega)]; exact hc 6 _ rfl, by rw [← add_field _ _ 7 (by omega)]; exact hc 7 _ rfl⟩
theorem C_iso {α β γ : Type} {d : Kd γ} {f : α → γ} {f' : β → γ} {g : α → β} (hg : ∀ x, f' (g x) = f x) {w : World} {A : Option Addr} {n : Nat} {xs : List α} (h : Kd.C (Kd.iso d f) w A n xs) : Kd.C (Kd.iso d f') w A n (xs.map g) := by
  obtain ⟨h1, h2, h3⟩ := h
  refine ⟨by rw [List.length_map]; exact h1, h2, fun hp => ?_⟩
  obtain ⟨ad, e, hc⟩ := h3 hp
  refine ⟨ad, e, fun i x hx => ?_⟩
  rw [List.getElem?_map] at hx
  obtain ⟨y, hy, rfl⟩ := Option.map_eq_some_iff.1 hx
  obtain ⟨cs, hl, hK, hcell⟩ := hc i y hy
  exact ⟨cs, hl, (by show d.K w (f' (g y)) cs; rw [hg]; exact hK), hcell⟩
end Go.Proofs.Ytepenfgeeggjmaa.Ver
