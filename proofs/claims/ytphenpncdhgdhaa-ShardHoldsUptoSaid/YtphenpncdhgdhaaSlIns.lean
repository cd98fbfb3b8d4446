/- slices.Insert of one element into a row of written-out cells, walked; copy over blocks of the walk's own. -/
import Derived.Test.YtphenpncdhgdhaaSlOps
import Derived.Shelf.Spec.SlicesInsertGrow
import Derived.Lib.AppendZerosOnto
import Derived.Lib.Overlaps
import Derived.Laws.Externs
import Derived.Deep.QuietTactic
import Derived.Laws.NewBlocks
import Derived.Lib.SliceRun
import Derived.Laws.IdiomCopy
namespace Go.Proofs.Ytphenpncdhgdhaa.Sl
open Go.RowKit Go.Proofs.YtphenpncdhgdhaaW.PrintWords Go.Proofs.YtphenpncdhgdhaaW.PrintLast Go.Proofs.YtphenpncdhgdhaaW.PrintMore
open HP
set_option linter.unusedVariables false
set_option linter.unusedSimpArgs false
section
variable {P : Program} {w0 W : World} {S0 : Nat → Prop} {F : List HP}
/-- copy into a block of the walk's own: all is read before anything is written. -/
theorem copy_runs (W : World) (dT sT ty elem : TypeId) (size g j dLen dCap : Nat) (a : Addr) (sLen sCap : Nat) (t : TypeId) (cs seg : List Value)
    (hu : P.underlying dT = some (.slice elem)) (hs : (P.info? elem).map (·.size) = some size) (hg : W.heap[g]? = some (.cells cs.toArray t (0, 0)))
    (hn : seg.length = Nat.min sLen dLen * size) (hsrc : ∀ k v, seg[k]? = some v → W.cell? (a.add k) = some v) (hfit : j + seg.length ≤ cs.length) (h1 : ∀ v ∈ seg, v.oneCell' = true) :
    (Builtin.copy_ #[dT, sT] ty #[.slice (some ⟨g, j, none⟩) dLen dCap, .slice (some a) sLen sCap]).run P W = .ok (goInt (Nat.min sLen dLen)) (W.setCells g j seg) := by
  have hl := run_loadCells_list (P := P) W a seg hsrc
  have hc : ∀ k, k < seg.length → (W.cell? ⟨g, j + k, none⟩).isSome = true := fun k hk => by
    have : j + k < cs.length := by omega
    simp [World.cell?, hg, this]
  have hf : ∀ k, k < seg.length → W.frozen? ⟨g, j + k, none⟩ = false := fun k hk => by simp [World.frozen?, hg]
  have hst := run_storeCells_cells (P := P) g j seg 0 W (by simpa using hc) (by simpa using hf) h1
  cases hq : P.info? elem with
  | none => simp [hq] at hs
  | some i =>
    have hi : i.size = size := by simpa [hq] using hs
    simp [Builtin.copy_, run_underlying hu, Builtin.lenOf, Builtin.firstCells, sizeOf, typeInfo, hq, hi, ← hn, hl, hst]
/-- A row as its block, and back. -/
theorem raw_open {n : Nat} {e : TypeId} {g k cap : Nat} {xs : List (List Value)} (h : St w0 S0 W (row (raw n) e (.slice (some ⟨g, 0, none⟩) k cap) xs :: F)) :
    ∃ cur : List Value, St w0 S0 W (obj g e cur :: F) ∧ k = xs.length ∧ k ≤ cap ∧ cap ≤ 9223372036854775807 ∧ cur.length = cap * n ∧ cur.take (k * n) = xs.flatten ∧ ∀ x ∈ xs, Cells n x := by
  obtain ⟨ext, S, ⟨S1, S2, a, b⟩, s⟩ := h
  obtain ⟨cur, a', rest⟩ := raw_row.1 a
  exact ⟨cur, ⟨ext, S, ⟨S1, S2, a', b⟩, s⟩, rest⟩
theorem raw_shut {n : Nat} {e : TypeId} {g k cap : Nat} {xs : List (List Value)} {cur : List Value} (h : St w0 S0 W (obj g e cur :: F)) (h1 : k = xs.length) (h2 : k ≤ cap) (h3 : cap ≤ 9223372036854775807)
    (h4 : cur.length = cap * n) (h5 : cur.take (k * n) = xs.flatten) (h6 : ∀ x ∈ xs, Cells n x) : St w0 S0 W (row (raw n) e (.slice (some ⟨g, 0, none⟩) k cap) xs :: F) := by
  obtain ⟨ext, S, ⟨S1, S2, a, b⟩, s⟩ := h
  exact ⟨ext, S, ⟨S1, S2, raw_row.2 ⟨cur, a, h1, h2, h3, h4, h5, h6⟩, b⟩, s⟩
theorem raw_form {n : Nat} {e : TypeId} {v : Value} {xs : List (List Value)} (h : St w0 S0 W (row (raw n) e v xs :: F)) : (v = .slice none 0 0 ∧ xs = []) ∨ ∃ g cap, v = .slice (some ⟨g, 0, none⟩) xs.length cap ∧ xs.length ≤ cap := by
  obtain ⟨ext, S, ⟨S1, S2, a, b⟩, s⟩ := h
  obtain ⟨h0, inner, ⟨h1, h2⟩, hr⟩ := a
  obtain ⟨rfl, hc⟩ := raw_reps hr
  rcases h2 with ⟨h2, h3⟩ | ⟨g', cap', cur, h2, _, hh, hle, hm, hsz, ht⟩
  · exact .inl ⟨h2, List.eq_nil_of_length_eq_zero h3⟩
  · exact .inr ⟨g', cap', h2, hle⟩
theorem st_apart {g g' : Nat} {o o' : Obj} (h : St w0 S0 W (HP.own g o :: HP.own g' o' :: F)) : g ≠ g' := by
  obtain ⟨_, S, ⟨S1, S2, a, ⟨S3, S4, b, _, _, s3, _⟩, d, _, _⟩, _⟩ := h
  rintro rfl
  exact d _ a.2 (s3 _ b.2)
theorem flatten_drop {n : Nat} : ∀ {xs : List (List Value)} (h : ∀ x ∈ xs, Cells n x) (i : Nat), xs.flatten.drop (i * n) = (xs.drop i).flatten
  | [], _, i => by simp
  | y :: xs, h, 0 => by simp
  | y :: xs, h, i + 1 => by
    have h1 := (h y (by simp)).1
    rw [List.flatten_cons, Nat.add_mul, Nat.one_mul, Nat.add_comm (i * n) n, ← List.drop_drop, List.drop_append_of_le_length (by omega), List.drop_of_length_le (Nat.le_of_eq h1), List.nil_append, List.drop_succ_cons]
    exact flatten_drop (fun z hz => h z (by simp [hz])) i
theorem flatten_take {n : Nat} : ∀ {xs : List (List Value)} (h : ∀ x ∈ xs, Cells n x) (i : Nat), xs.flatten.take (i * n) = (xs.take i).flatten
  | [], _, i => by simp
  | y :: xs, h, 0 => by simp
  | y :: xs, h, i + 1 => by
    have h1 := (h y (by simp)).1
    rw [List.flatten_cons, Nat.add_mul, Nat.one_mul, Nat.add_comm (i * n) n, List.take_succ_cons, List.flatten_cons, ← flatten_take (fun z hz => h z (by simp [hz])) i, List.take_append, List.take_of_length_le (by omega), h1]
    congr 2
    omega
theorem splice_eq : ∀ (seg cs : List Value) (j : Nat), j + seg.length ≤ cs.length → splice cs j seg = cs.take j ++ seg ++ cs.drop (j + seg.length)
  | [], cs, j, h => by simp [splice]
  | v :: r, cs, j, h => by
    have h' : j + (r.length + 1) ≤ cs.length := by simpa using h
    rw [splice, splice_eq r (cs.set j v) (j + 1) (by rw [List.length_set]; omega)]
    have := list_seg_step cs j v r (by omega)
    simpa using this
/-- A row's cells with one element put in: the elements' cells of the row so turned. -/
theorem ins_cells {n : Nat} {xs : List (List Value)} (hc : ∀ x ∈ xs, Cells n x) {y : List Value} (hy : Cells n y) (i : Nat) (hi : i ≤ xs.length) (cur : List Value) (hl : (xs.length + 1) * n ≤ cur.length)
    (ht : cur.take (i * n) = (xs.take i).flatten) :
    (splice (splice cur ((i + 1) * n) (xs.drop i).flatten) (i * n) y).take ((xs.length + 1) * n) = (xs.take i ++ y :: xs.drop i).flatten ∧
    (splice (splice cur (i * n) y) ((i + 1) * n) (xs.drop i).flatten).take ((xs.length + 1) * n) = (xs.take i ++ y :: xs.drop i).flatten := by
  have ld : (xs.drop i).flatten.length = (xs.length - i) * n := by rw [flatten_len (fun x hx => hc x (List.mem_of_mem_drop hx)), List.length_drop]
  have e1 : (i + 1) * n = i * n + n := by rw [Nat.add_mul, Nat.one_mul]
  have e2 : (xs.length + 1) * n = i * n + n + (xs.length - i) * n := by rw [← e1, ← Nat.add_mul]; congr 1; omega
  have lt : (xs.take i).flatten.length = i * n := by rw [← ht, List.length_take]; omega
  have hyl := hy.1
  have key : ∀ l : List Value, l = (xs.take i).flatten ++ y ++ (xs.drop i).flatten → l = (xs.take i ++ y :: xs.drop i).flatten := fun l h => by rw [h]; simp
  constructor
  · rw [splice_eq y _ _ (by rw [splice_length]; omega), splice_eq _ cur _ (by omega)]
    apply key
    rw [e1, e2, hyl, ld]
    have a1 : (cur.take (i * n + n) ++ (xs.drop i).flatten ++ cur.drop (i * n + n + (xs.length - i) * n)).take (i * n) = (xs.take i).flatten := by
      rw [List.append_assoc, List.take_append_of_le_length (by rw [List.length_take]; omega), List.take_take, Nat.min_eq_left (by omega), ht]
    have a2 : (cur.take (i * n + n) ++ (xs.drop i).flatten ++ cur.drop (i * n + n + (xs.length - i) * n)).drop (i * n + n) = (xs.drop i).flatten ++ cur.drop (i * n + n + (xs.length - i) * n) := by
      rw [List.append_assoc, List.drop_append_of_le_length (by rw [List.length_take]; omega), List.drop_of_length_le (by rw [List.length_take]; omega), List.nil_append]
    rw [a1, a2, ← List.append_assoc, List.take_append_of_le_length (by simp only [List.length_append]; omega), List.take_of_length_le (by simp only [List.length_append]; omega)]
  · rw [splice_eq _ _ _ (by rw [splice_length]; omega), splice_eq y cur _ (by omega)]
    apply key
    rw [e1, e2, hyl, ld, ht]
    have a1 : ((xs.take i).flatten ++ y ++ cur.drop (i * n + n)).take (i * n + n) = (xs.take i).flatten ++ y := by
      rw [List.take_append_of_le_length (by simp only [List.length_append]; omega), List.take_of_length_le (by simp only [List.length_append]; omega)]
    rw [a1, List.take_append_of_le_length (by simp only [List.length_append]; omega), List.take_of_length_le (by simp only [List.length_append]; omega)]
end
end Go.Proofs.Ytphenpncdhgdhaa.Sl
