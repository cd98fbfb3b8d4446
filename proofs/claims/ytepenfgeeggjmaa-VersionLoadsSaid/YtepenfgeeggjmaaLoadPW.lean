/- Joined of: LoadP LoadW. -/
import Derived.Test.YtepenfgeeggjmaaPlaysH
section
/- Loading a store: plain. -/
namespace Go.Proofs.Ytepenfgeeggjmaa.Ver
open Go.RowKit Go.Proofs.YtepenfgeeggjmaaW.PrintWords Go.Proofs.YtepenfgeeggjmaaW.PrintLast Go.Proofs.YtepenfgeeggjmaaW.PrintMore Go.Proofs.Ytepenfgeeggjmaa.Sl Go.Proofs.Ytepenfgeeggjmaa.Str Go.Proofs.Ytepenfgeeggjmaa.Row
set_option linter.unusedVariables false
set_option linter.unusedSimpArgs false
/-- A row's number i is right. -/
structure KeyAt (l : List Rw) (i : Nat) (h : i < l.length) : Prop where
  key : ∀ h0 : 0 < i, cmpS (l[i - 1]'(by omega)).key l[i].key < 0
  some_ : 0 < l[i].vs.length
/-- A version's number q is right. -/
def VerAt (vs : List Vn) (q : Nat) (h : q < vs.length) : Prop := 1 ≤ vs[q].ts ∧ ∀ h0 : 0 < q, (vs[q - 1]'(by omega)).ts < vs[q].ts
def OkAt (l : List Rw) (i : Nat) (h : i < l.length) : Prop := KeyAt l i h ∧ ∀ q (hq : q < l[i].vs.length), VerAt l[i].vs q hq
def OkL (l : List Rw) : Prop := ∀ i (h : i < l.length), OkAt l i h
def total (l : List Rw) : Nat := l.length + (l.map (fun r => r.vs.length)).sum
def logOf (l : List Rw) : Log := l.flatMap (fun r => r.vs.map (fun v => (r.key, v)))
theorem adj_rises (l : List Rw) (n : Nat) (hn : n ≤ l.length) (h : ∀ i (hi : i < n) (h0 : 0 < i), cmpS (l[i - 1]'(by omega)).key (l[i]'(by omega)).key < 0) : Rises (l.take n) := by
  have hlt : ∀ (d i : Nat) (hi : i + d + 1 < n), cmpS (l[i]'(by omega)).key (l[i + d + 1]'(by omega)).key < 0 := by
    intro d
    induction d with
    | zero =>
      intro i hi
      have := h (i + 1) hi (by omega)
      simpa using this
    | succ d ih =>
      intro i hi
      have h1 := ih i (by omega)
      have h2 := h (i + d + 1 + 1) (by omega) (by omega)
      simp only [Nat.add_sub_cancel] at h2
      exact lt_trans h1 h2
  unfold Rises
  rw [List.pairwise_iff_getElem]
  intro i j hi hj hij
  rw [List.length_take] at hi hj
  rw [List.getElem_take, List.getElem_take]
  obtain ⟨d, rfl⟩ : ∃ d, j = i + d + 1 := ⟨j - i - 1, by omega⟩
  exact hlt d i (by omega)
theorem lb_all (A B : List Rw) (k : ByteArray) (hA : ∀ r ∈ A, cmpS r.key k < 0) (hB : ∀ r ∈ B, ¬ cmpS r.key k < 0) : lb (A ++ B) k = A.length := by
  refine lb_eq k (A ++ B) A.length (by simp) (fun j hj => ?_) (fun h => ?_)
  · rw [List.getElem_append_left hj]
    exact hA _ (List.getElem_mem hj)
  · rw [List.getElem_append_right (Nat.le_refl _)]
    exact hB _ (List.getElem_mem _)
theorem put_last_new (A : List Rw) (k : ByteArray) (v : Vn) (hA : ∀ r ∈ A, cmpS r.key k < 0) : putErr A k v = (if v.ts < 1 then 1 else 0) ∧ (1 ≤ v.ts → put A k v = A ++ [⟨k, [v]⟩]) := by
  have hl : lb A k = A.length := by
    have := lb_all A [] k hA (fun r h => by simp at h)
    simpa using this
  have ht : there A k = false := by
    unfold there
    rw [hl, List.getElem?_eq_none (Nat.le_refl _)]
  have he : putErr A k v = (if v.ts < 1 then 1 else 0) := by
    have hnw : newest A k = 0 := by
      unfold newest
      rw [ht]
      rfl
    unfold putErr
    rw [hnw]
    by_cases h : v.ts < 1
    · rw [if_pos h, if_pos h]
    · rw [if_neg h, if_neg h, if_neg (by omega)]
  refine ⟨he, fun hv => ?_⟩
  have he0 : putErr A k v = 0 := by rw [he, if_neg (by omega)]
  unfold put
  rw [if_pos he0, putRows_new A k v ht, hl, List.take_length, List.drop_length]
theorem put_last_more (A : List Rw) (k : ByteArray) (vs : List Vn) (v : Vn) (hA : ∀ r ∈ A, cmpS r.key k < 0) : putErr (A ++ [⟨k, vs⟩]) k v = (if v.ts < 1 then 1 else if v.ts ≤ lastTs vs then 120 else 0) ∧ (1 ≤ v.ts → lastTs vs < v.ts → put (A ++ [⟨k, vs⟩]) k v = A ++ [⟨k, vs ++ [v]⟩]) := by
  have hl : lb (A ++ [⟨k, vs⟩]) k = A.length := lb_all A [⟨k, vs⟩] k hA (fun r h => by
    rw [List.mem_singleton.1 h]
    show ¬ cmpS k k < 0
    rw [cmpS_self]
    omega)
  have hg : (A ++ [(⟨k, vs⟩ : Rw)])[A.length]? = some ⟨k, vs⟩ := by simp
  have ht : there (A ++ [⟨k, vs⟩]) k = true := by
    unfold there
    rw [hl, hg]
    show decide (cmpS k k = 0) = true
    rw [cmpS_self]
    rfl
  have hn : newest (A ++ [⟨k, vs⟩]) k = lastTs vs := by
    unfold newest
    rw [ht, hl, hg]
    rfl
  refine ⟨by unfold putErr; rw [hn], fun h1 h2 => ?_⟩
  have he : putErr (A ++ [⟨k, vs⟩]) k v = 0 := by
    unfold putErr
    rw [hn, if_neg (by omega), if_neg (by omega)]
  unfold put
  rw [he, if_pos rfl]
  exact putRows_there _ k v ht rfl hl.symm
theorem lastTs_take (vs : List Vn) (q : Nat) (hq : q < vs.length) (h0 : 0 < q) : lastTs (vs.take q) = (vs[q - 1]'(by omega)).ts := by
  unfold lastTs
  rw [List.getLast?_eq_getElem?, List.length_take, List.getElem?_take]
  rw [if_pos (by omega), show min q vs.length - 1 = q - 1 by omega, List.getElem?_eq_getElem (by omega)]
/-- What is loaded behind j rows and q versions of the next. -/
def pre (l : List Rw) (j q : Nat) (h : j < l.length) : List Rw := if q = 0 then l.take j else l.take j ++ [⟨l[j].key, l[j].vs.take q⟩]
theorem pre_zero (l : List Rw) (j : Nat) (h : j < l.length) : pre l j 0 h = l.take j := if_pos rfl
theorem pre_end (l : List Rw) (j : Nat) (h : j < l.length) (h0 : 0 < l[j].vs.length) : pre l j l[j].vs.length h = l.take (j + 1) := by
  unfold pre
  rw [if_neg (by omega), List.take_length, List.take_succ_eq_append_getElem h]
theorem pre_put (l : List Rw) (j q : Nat) (h : j < l.length) (hq : q < l[j].vs.length) (hA : ∀ r ∈ l.take j, cmpS r.key l[j].key < 0) :
    (putErr (pre l j q h) l[j].key l[j].vs[q] = 0 ↔ VerAt l[j].vs q hq) ∧ (VerAt l[j].vs q hq → put (pre l j q h) l[j].key l[j].vs[q] = pre l j (q + 1) h) := by
  rcases Nat.eq_zero_or_pos q with rfl | hp
  · rw [pre_zero]
    have h1 := put_last_new (l.take j) l[j].key l[j].vs[0] hA
    rw [h1.1]
    refine ⟨⟨fun e => ?_, fun e => ?_⟩, fun e => ?_⟩
    · by_cases hc : (l[j].vs[0]).ts < 1
      · rw [if_pos hc] at e; omega
      · exact ⟨by omega, fun h0 => by omega⟩
    · rw [if_neg (by have := e.1; omega)]
    · rw [h1.2 e.1]
      unfold pre
      rw [if_neg (by omega), List.take_succ_eq_append_getElem hq]
      rfl
  · have hpre : pre l j q h = l.take j ++ [⟨l[j].key, l[j].vs.take q⟩] := if_neg (by omega)
    have hpre2 : pre l j (q + 1) h = l.take j ++ [⟨l[j].key, l[j].vs.take (q + 1)⟩] := if_neg (by omega)
    rw [hpre, hpre2]
    have h1 := put_last_more (l.take j) l[j].key (l[j].vs.take q) l[j].vs[q] hA
    have hlt := lastTs_take l[j].vs q hq hp
    rw [h1.1, hlt]
    refine ⟨⟨fun e => ?_, fun e => ?_⟩, fun e => ?_⟩
    · by_cases hc : (l[j].vs[q]).ts < 1
      · rw [if_pos hc] at e; omega
      · rw [if_neg hc] at e
        by_cases hd : (l[j].vs[q]).ts ≤ (l[j].vs[q - 1]'(by omega)).ts
        · rw [if_pos hd] at e; omega
        · exact ⟨by omega, fun _ => by omega⟩
    · have h2 := e.2 hp
      rw [if_neg (by have := e.1; omega), if_neg (by omega)]
    · have h2 := e.2 hp
      rw [h1.2 e.1 (by rw [hlt]; exact h2), ← List.take_succ_eq_append_getElem hq]
theorem sum_take (l : List Rw) (i : Nat) (h : i < l.length) : ((l.take (i + 1)).map (fun r => r.vs.length)).sum = ((l.take i).map (fun r => r.vs.length)).sum + l[i].vs.length := by
  rw [List.take_succ_eq_append_getElem h, List.map_append, List.sum_append]
  simp
theorem mem_le_sum (l : List Rw) : ∀ r ∈ l, r.vs.length ≤ (l.map (fun r => r.vs.length)).sum := by
  induction l with
  | nil => intro r h; simp at h
  | cons x l ih =>
    intro r h
    rw [List.map_cons, List.sum_cons]
    rcases List.mem_cons.1 h with rfl | h
    · omega
    · have := ih r h; omega
/-- What is loaded is kept in order. -/
theorem pre_kept (l : List Rw) (ht : total l ≤ 1000) (hs : ∀ r ∈ l, r.key.size ≤ 140737488351232) (j q : Nat) (h : j < l.length) (hq : q ≤ l[j].vs.length) (hk : ∀ i (hi : i < l.length), i < j → OkAt l i hi) (hj : KeyAt l j h) (hv : ∀ p (hp : p < l[j].vs.length), p < q → VerAt l[j].vs p hp) : Kept (pre l j q h) 1000 ∧ (∀ r ∈ l.take j, cmpS r.key l[j].key < 0) := by
  have hr : Rises (l.take (j + 1)) := adj_rises l (j + 1) (by omega) (fun i hi h0 => by
    by_cases e : i = j
    · subst e; exact hj.key h0
    · exact (hk i (by omega) (by omega)).1.key h0)
  have hr2 := hr
  rw [List.take_succ_eq_append_getElem h] at hr2
  obtain ⟨r1, r2, r3⟩ := rises_app.1 hr2
  have hA : ∀ r ∈ l.take j, cmpS r.key l[j].key < 0 := fun r hr => r3 r hr _ (by simp)
  have hfull : Full (l.take j) := fun r hr => by
    obtain ⟨i, hi, rfl⟩ := List.getElem_of_mem hr
    rw [List.length_take] at hi
    rw [List.getElem_take]
    have := hk i (by omega) (by omega)
    refine ⟨fun e => by have := this.1.some_; rw [e] at this; simp at this, fun v hv => ?_⟩
    obtain ⟨p, hp, rfl⟩ := List.getElem_of_mem hv
    exact (this.2 p hp).1
  have htl : l.length + (l.map (fun r => r.vs.length)).sum ≤ 1000 := ht
  have heach : ∀ r ∈ l.take j, r.vs.length ≤ 1000 ∧ r.key.size ≤ 140737488351232 := fun r hr => ⟨by
    have := mem_le_sum l r (List.mem_of_mem_take hr)
    omega, hs r (List.mem_of_mem_take hr)⟩
  refine ⟨?_, hA⟩
  unfold pre
  by_cases hz : q = 0
  · rw [if_pos hz]
    exact ⟨r1, hfull, by rw [List.length_take]; omega, heach⟩
  · rw [if_neg hz]
    refine ⟨rises_app.2 ⟨r1, List.pairwise_singleton _ _, fun r hr q hq => by rw [List.mem_singleton.1 hq]; exact hA r hr⟩, ?_, by rw [List.length_append, List.length_take, List.length_singleton]; omega, ?_⟩
    · intro r hr
      rcases List.mem_append.1 hr with hr | hr
      · exact hfull r hr
      · rw [List.mem_singleton.1 hr]
        refine ⟨fun e => ?_, fun v hv' => ?_⟩
        · have e : (l[j].vs.take q).length = 0 := congrArg List.length e
          rw [List.length_take] at e
          omega
        · obtain ⟨p, hp, rfl⟩ := List.getElem_of_mem hv'
          have hp' : p < (l[j].vs.take q).length := hp
          rw [List.length_take] at hp'
          show 1 ≤ ((l[j].vs.take q)[p]).ts
          rw [List.getElem_take]
          exact (hv p (by omega) (by omega)).1
    · intro r hr
      rcases List.mem_append.1 hr with hr | hr
      · exact heach r hr
      · rw [List.mem_singleton.1 hr]
        have := mem_le_sum l l[j] (List.getElem_mem h)
        exact ⟨by show (l[j].vs.take q).length ≤ 1000; rw [List.length_take]; omega, hs l[j] (List.getElem_mem h)⟩
theorem all_kept (l : List Rw) (ht : total l ≤ 1000) (hs : ∀ r ∈ l, r.key.size ≤ 140737488351232) (ho : OkL l) : Kept l 1000 := by
  have htl : l.length + (l.map (fun r => r.vs.length)).sum ≤ 1000 := ht
  have hr := adj_rises l l.length (Nat.le_refl _) (fun i hi h0 => (ho i hi).1.key h0)
  rw [List.take_length] at hr
  refine ⟨hr, fun r hr => ?_, by omega, fun r hr => ⟨by have := mem_le_sum l r hr; omega, hs r hr⟩⟩
  obtain ⟨i, hi, rfl⟩ := List.getElem_of_mem hr
  refine ⟨fun e => by have := (ho i hi).1.some_; rw [e] at this; simp at this, fun v hv => ?_⟩
  obtain ⟨p, hp, rfl⟩ := List.getElem_of_mem hv
  exact ((ho i hi).2 p hp).1
/-- The document's list behind j rows and q versions. -/
def preL (l : List Rw) (j q : Nat) (h : j < l.length) : Log := logOf (l.take j) ++ (l[j].vs.take q).map (fun v => (l[j].key, v))
theorem preL_zero (l : List Rw) (j : Nat) (h : j < l.length) : preL l j 0 h = logOf (l.take j) := by simp [preL]
theorem preL_end (l : List Rw) (j : Nat) (h : j < l.length) : preL l j l[j].vs.length h = logOf (l.take (j + 1)) := by
  unfold preL logOf
  rw [List.take_length, List.take_succ_eq_append_getElem h, List.flatMap_append]
  simp
theorem preL_step (l : List Rw) (j q : Nat) (h : j < l.length) (hq : q < l[j].vs.length) : preL l j (q + 1) h = preL l j q h ++ [(l[j].key, l[j].vs[q])] := by
  unfold preL
  rw [List.take_succ_eq_append_getElem hq, List.map_append]
  simp
theorem logOf_len (l : List Rw) : (logOf l).length = (l.map (fun r => r.vs.length)).sum := by
  unfold logOf
  rw [List.length_flatMap]
  simp
theorem preL_len (l : List Rw) (j q : Nat) (h : j < l.length) : (preL l j q h).length ≤ total l := by
  have h1 := logOf_len (l.take j)
  have h2 : ((l.take (j + 1)).map (fun r => r.vs.length)).sum ≤ (l.map (fun r => r.vs.length)).sum := by
    conv => rhs; rw [← List.take_append_drop (j + 1) l]
    rw [List.map_append, List.sum_append]
    omega
  rw [sum_take l j h] at h2
  unfold preL total
  rw [List.length_append, h1, List.length_map, List.length_take]
  omega
/-- Loaded on both sides, it is the same. -/
theorem load_both (l : List Rw) (ho : OkL l) (hs : ∀ r ∈ l, r.key.size ≤ 140737488351232) : Good (logOf l) ∧ rowsL (logOf l) = l := by
  have key : ∀ j, j ≤ l.length → Good (logOf (l.take j)) ∧ rowsL (logOf (l.take j)) = l.take j := by
    intro j
    induction j with
    | zero => intro _; exact ⟨good_nil, rfl⟩
    | succ j ih =>
      intro hj
      have h : j < l.length := by omega
      have hA : ∀ r ∈ l.take j, cmpS r.key l[j].key < 0 := by
        have hr := adj_rises l (j + 1) hj (fun i hi h0 => (ho i (by omega)).1.key h0)
        rw [List.take_succ_eq_append_getElem h] at hr
        exact fun r hr' => (rises_app.1 hr).2.2 r hr' _ (by simp)
      have inner : ∀ q, q ≤ l[j].vs.length → Good (preL l j q h) ∧ rowsL (preL l j q h) = pre l j q h := by
        intro q
        induction q with
        | zero => intro _; rw [preL_zero, pre_zero]; exact ih (by omega)
        | succ q ihq =>
          intro hq
          obtain ⟨g1, g2⟩ := ihq (by omega)
          have hv := (ho j h).2 q (by omega)
          have hp := pre_put l j q h (by omega) hA
          have he := hp.1.2 hv
          have h2 := hp.2 hv
          rw [← g2] at he h2
          rw [putErr_eq _ g1] at he
          have h3 := put_eq _ g1 l[j].key l[j].vs[q]
          have h4 : putL (preL l j q h) l[j].key l[j].vs[q] = preL l j (q + 1) h := by
            unfold putL
            rw [he, if_pos rfl, preL_step]
          rw [h4] at h3
          exact ⟨h3.2, by rw [← h3.1, h2]⟩
      have := inner l[j].vs.length (Nat.le_refl _)
      rw [preL_end, pre_end l j h (ho j h).1.some_] at this
      exact this
  have := key l.length (Nat.le_refl _)
  rw [List.take_length] at this
  exact this
theorem load_log (l : List Rw) (ht : total l ≤ 1000) (hs : ∀ r ∈ l, r.key.size ≤ 140737488351232) (ho : OkL l) : Both (logOf l) 1000 := by
  obtain ⟨h1, h2⟩ := load_both l ho hs
  have htl : l.length + (l.map (fun r => r.vs.length)).sum ≤ 1000 := ht
  refine ⟨h1, by rw [h2]; exact all_kept l ht hs ho, by rw [logOf_len]; omega, fun p hp => ?_⟩
  unfold logOf at hp
  obtain ⟨r, hr, hp⟩ := List.mem_flatMap.1 hp
  obtain ⟨v, hv, rfl⟩ := List.mem_map.1 hp
  have := hs r hr
  show r.key.size ≤ _
  omega
end Go.Proofs.Ytepenfgeeggjmaa.Ver
end
section
/- version.Load, walked. -/
namespace Go.Proofs.Ytepenfgeeggjmaa.Ver
open Go.RowKit Go.Proofs.YtepenfgeeggjmaaW.PrintWords Go.Proofs.YtepenfgeeggjmaaW.PrintLast Go.Proofs.YtepenfgeeggjmaaW.PrintMore Go.Proofs.Ytepenfgeeggjmaa.Sl Go.Proofs.Ytepenfgeeggjmaa.Str Go.Proofs.Ytepenfgeeggjmaa.Row
set_option linter.unusedVariables false
set_option linter.unusedSimpArgs false
/-- Rows that lie in somebody else's memory, their second cells fixed. -/
def Fixed (A : Option Addr) (V : Nat → Value) (l : List Rw) (w : World) : Prop := ∀ j (h : j < l.length), ∃ ad, A = some ad ∧ w.cell? (ad.add (j * 2)) = some (.string l[j].key) ∧ w.cell? ⟨(ad.add (j * 2)).block, (ad.add (j * 2)).off + 1, none⟩ = some (V j) ∧
  ∃ A1 c1, V j = .slice A1 l[j].vs.length c1 ∧ l[j].vs.length ≤ c1 ∧ Kd.C kVn w A1 l[j].vs.length l[j].vs
theorem rwC_at {w : World} {A : Option Addr} {n : Nat} {xs : List Rw} (h : Kd.C kRw w A n xs) (i : Nat) (hi : i < xs.length) : ∃ ad A1 c1, A = some ad ∧ w.cell? (ad.add (i * 2)) = some (.string xs[i].key) ∧ w.cell? ⟨(ad.add (i * 2)).block, (ad.add (i * 2)).off + 1, none⟩ = some (.slice A1 xs[i].vs.length c1) ∧
    xs[i].vs.length ≤ c1 ∧ Kd.C kVn w A1 xs[i].vs.length xs[i].vs := by
  obtain ⟨ad, e, hc⟩ := h.2.2 (by have := h.1; omega)
  obtain ⟨c, _, hK, hc0⟩ := hc i xs[i] (List.getElem?_eq_getElem hi)
  have hc : ∀ j u, c[j]? = some u → w.cell? (ad.add (i * 2 + j)) = some u := hc0
  obtain ⟨A1, c1, rfl, h1, h2⟩ := kRw_open hK
  exact ⟨ad, A1, c1, e, hc 0 _ rfl, by rw [← add_field _ _ 1 (by omega)]; exact hc 1 _ rfl, h1, h2⟩
theorem fixed_of {w : World} {A : Option Addr} {l : List Rw} (h : Kd.C kRw w A l.length l) : ∃ V, ∀ w', Below w.heap.size w w' → Fixed A V l w' ∧ Kd.C kRw w' A l.length l := by
  refine ⟨fun j => match A with | some ad => (w.cell? ⟨(ad.add (j * 2)).block, (ad.add (j * 2)).off + 1, none⟩).getD default | none => default, fun w' hb => ⟨fun j hj => ?_, Kd.C_below h hb⟩⟩
  obtain ⟨ad, A1, c1, rfl, h1, h2, h3, h4⟩ := rwC_at h j hj
  refine ⟨ad, rfl, pw_cell_below hb h1, ?_, A1, c1, ?_, h3, Kd.C_below h4 hb⟩
  · show _ = some ((w.cell? ⟨(ad.add (j * 2)).block, (ad.add (j * 2)).off + 1, none⟩).getD default)
    rw [h2]
    exact pw_cell_below hb h2
  · show (w.cell? ⟨(ad.add (j * 2)).block, (ad.add (j * 2)).off + 1, none⟩).getD default = _
    rw [h2]
    rfl
def Tells (b : Bool) (p : Prop) : Prop := b = true ↔ p
theorem tells_yes {p : Prop} (h : p) : Tells true p := ⟨fun _ => h, fun _ => rfl⟩
theorem tells_no {p : Prop} (h : ¬ p) : Tells false p := ⟨fun e => (by cases e), fun e => absurd e h⟩
/-- What Load answers. -/
def loadedH (r : Value) (ok : Bool) (l : List Rw) : HP := match ok with
  | true => HP.ex fun gs : Nat => HP.and (r = .tuple #[.pointer (some ⟨gs, 0, none⟩), .int .i64 0]) (someH gs l)
  | false => HP.pure (r = .tuple #[.pointer none, .int .i64 100])
set_option maxHeartbeats 8000000 in
set_option maxRecDepth 20000 in
theorem load_fun (A : Option Addr) (c : Nat) (V : Nat → Value) (l : List Rw) (hlc : l.length ≤ c) (ht : total l ≤ 1000) (hs : ∀ r ∈ l, r.key.size ≤ 140737488351232) :
    Fun Try.prog 21 #[.slice A l.length c] (fun w => Fixed A V l w) [] (fun r => [HP.ex fun ok : Bool => HP.and (ok = true ↔ OkL l) (loadedH r ok l)]) := by
  intro w S hS hR
  have HS := St.start hS
  have HR := Aside0.mk hR
  have HSZ := Aside0.mk hs
  have HT := Aside0.mk ht
  have hll : l.length ≤ 1000 := by unfold total at ht; omega
  have HVL := Aside0.mk (show ∀ j (h : j < l.length), l[j].vs.length ≤ 1000 from fun j h => by
    have := mem_le_sum l l[j] (List.getElem_mem h)
    unfold total at ht
    omega)
  clear hS hR hs ht
  have hu48 := Try.underlying48
  have hu53 := Try.underlying53
  have hu51 := Try.underlying51
  have hu29 := Try.underlying29
  go_enter Try.func21, Try.ntmps21
  go_wp2_with fail
  refine (newS_fun.call (F := []) HS (fun _ _ _ _ => trivial)).mono ?_
  rintro e_ w3 ⟨r_, rfl, HS_⟩
  clear HS
  obtain ⟨gs, HS_⟩ := St.ex_ HS_
  obtain ⟨hr_, HS2_⟩ := St.and_ HS_
  subst hr_
  have HS : St w S w3 [someH gs []] := HS2_
  clear HS_ HS2_
  go_wp2_with fail
  go_loopw [12] (fun v12 w' => ∃ j : Nat, j ≤ l.length ∧ v12 = .int .i64 j ∧ Aside0 (∀ i (hi : i < l.length), i < j → OkAt l i hi) ∧ St w S w' [someH gs (l.take j)]) (fun v12 _ => l.length - (intOf v12).toNat)
  case atStart => exact ⟨0, Nat.zero_le _, rfl, ⟨fun i hi h => by omega⟩, HS⟩
  case round =>
    clear HS
    obtain ⟨j, hj, rfl, HK, HS⟩ := hrel
    by_cases hlt : j < l.length
    · have hltI : (j : Int) < (l.length : Int) := by omega
      have hj0 : (0 : Int) ≤ (j : Int) := by omega
      have hjd : decide ((j : Int) < (l.length : Int)) = true := decide_eq_true hltI
      obtain ⟨ad, rfl, i0, i1, A1, m, hV, hm, hC⟩ := HR.out wr HS.ext j hlt
      rw [hV] at i1
      have hvl := HVL.out j hlt
      have HPZ : Aside0 (pre l j 0 hlt = l.take j) := ⟨pre_zero l j hlt⟩
      have HPE : Aside0 (0 < l[j].vs.length → pre l j l[j].vs.length hlt = l.take (j + 1)) := ⟨pre_end l j hlt⟩
      have HPP := Aside0.mk (fun q hq hA => pre_put l j q hlt hq hA)
      have HPK := Aside0.mk (fun q hq => pre_kept l HT.out HSZ.out j q hlt hq HK.out)
      have HKA : Aside0 (KeyAt l j hlt ↔ ((∀ h0 : 0 < j, cmpS (l[j - 1]'(by omega)).key l[j].key < 0) ∧ 0 < l[j].vs.length)) := ⟨⟨fun h => ⟨h.key, h.some_⟩, fun h => ⟨h.1, h.2⟩⟩⟩
      have HRV := Aside0.mk (fun (w' : World) (h : Ext w w' S) => (show Kd.C kVn w' A1 l[j].vs.length l[j].vs from by
        obtain ⟨ad', e', -, -, A1', m', hV', -, hC'⟩ := HR.out w' h j hlt
        rw [hV] at hV'
        obtain ⟨rfl, -, rfl⟩ : A1 = A1' ∧ l[j].vs.length = l[j].vs.length ∧ m = m' := by simpa using hV'
        exact hC'))
      have HOK : Aside0 (OkAt l j hlt ↔ (KeyAt l j hlt ∧ ∀ q (hq : q < l[j].vs.length), VerAt l[j].vs q hq)) := ⟨Iff.rfl⟩
      clear hC hV
      obtain ⟨k, hk⟩ : ∃ k, l[j].key = k := ⟨_, rfl⟩
      obtain ⟨vs, hvs⟩ : ∃ vs, l[j].vs = vs := ⟨_, rfl⟩
      rw [hk] at i0
      rw [hvs] at i1 hm hvl HPE HRV
      have HKV := Aside0.mk (And.intro hk hvs)
      clear hk hvs
      go_upto_region 5 with (first
        | ((with_reducible refine gate_dst (N := 6) rfl ?_); refine ev_box ?hg (N := 6) ?hd (cs := [.string ⟨#[]⟩, .slice none 0 0]) (t := 53) HS ?hr ?_; (case hd => rfl); (case hg => rfl); (case hr => first | (go_simp; done) | (go_simp; rfl)); intro rb w4 HS_ hg_rb; clear HS; have HS := HS_; clear HS_; clear i0 i1)
        | ((with_reducible refine gate_ (.store 53 (.tmp 6) (.tmp 16)) rfl ?_); refine ev_store rfl rfl 53 (.tmp 6) (.tmp 16) rfl HS rfl rfl (seg := [.string k, .slice A1 vs.length m]) rfl ?ht rfl ?hf ?_; (case ht => kernel_rfl); (case hf => first | (simp; done) | (simp [splice]; done)); intro w5 HS_; clear HS; have HS : St w S w5 [HP.obj rb 53 [.string k, .slice A1 vs.length m], someH gs (l.take j)] := HS_; clear HS_))
      try simp only [Act.put, List.setIfInBounds_toArray, List.set_cons_zero, List.set_cons_succ]
      go_cut [35] (fun v35 wc => ∃ bad : Bool, v35 = .bool bad ∧ Aside0 (Tells bad (¬ KeyAt l j hlt)) ∧ St w S wc [HP.obj rb 53 [.string k, .slice A1 vs.length m], someH gs (l.take j)])
      case first =>
        have q0 : w5.cell? ⟨rb, 0, none⟩ = some (.string k) := HS.cell 0
        have q1 : w5.cell? ⟨rb, 1, none⟩ = some (.slice A1 vs.length m) := HS.cell 1
        rcases Nat.eq_zero_or_pos j with hz | hz
        · subst hz
          by_cases hv : vs.length = 0
          · have hvI : ((vs.length : Int) == 0) = true := beq_iff_eq.2 (by omega)
            have HB : Aside0 (Tells true (¬ KeyAt l 0 hlt)) := ⟨tells_yes (fun h => by have := h.some_; rw [HKV.out.2] at this; omega)⟩
            clear hv
            go_quiet (fail)
            go_wp2
            go_meet
            exact ⟨true, by first | rfl | simp, HB, HS.drewN _⟩
          · have hvI : ((vs.length : Int) == 0) = false := beq_eq_false_iff_ne.2 (by omega)
            have HB : Aside0 (Tells false (¬ KeyAt l 0 hlt)) := ⟨tells_no (fun h => h (HKA.out.2 ⟨fun h0 => absurd h0 (Nat.lt_irrefl _), by rw [HKV.out.2]; omega⟩))⟩
            clear hv
            go_quiet (fail)
            go_wp2
            go_meet
            exact ⟨false, by first | rfl | simp, HB, HS.drewN _⟩
        · have hdz : decide ((j : Int) > 0) = true := decide_eq_true (by omega)
          obtain ⟨p, hp⟩ : ∃ p, j = p + 1 := ⟨j - 1, by omega⟩
          have hpl : p < l.length := by omega
          have hw2 : IntKind.i64.wrap ((j : Int) - 1) = (p : Int) := by rw [IntWalk.i64_in _ (by omega)]; omega
          have hp0 : (0 : Int) ≤ (p : Int) := by omega
          have hpI : (p : Int) < (l.length : Int) := by omega
          obtain ⟨ad', e', j0, -⟩ := HR.out w5 HS.ext p hpl
          obtain rfl := Option.some.inj e'
          have hkp : ∀ h : j - 1 < l.length, (l[j - 1]'h).key = l[p].key := fun h => by congr 2; omega
          obtain ⟨kp, hkk⟩ : ∃ kp, l[p].key = kp := ⟨_, rfl⟩
          rw [hkk] at j0 hkp
          have HKP := Aside0.mk hkp
          clear hkp hkk e' hp
          by_cases hcm : cmpS kp k < 0
          · have hls : Op.bytesLess kp.toList k.toList = true := by rw [bytesLess_cmp]; exact decide_eq_true hcm
            by_cases hv : vs.length = 0
            · have hvI : ((vs.length : Int) == 0) = true := beq_iff_eq.2 (by omega)
              have HB : Aside0 (Tells true (¬ KeyAt l j hlt)) := ⟨tells_yes (fun h => by have := h.some_; rw [HKV.out.2] at this; omega)⟩
              clear hv
              go_quiet (fail)
              go_wp2
              go_meet
              exact ⟨true, by first | rfl | simp, HB, HS.drewN _⟩
            · have hvI : ((vs.length : Int) == 0) = false := beq_eq_false_iff_ne.2 (by omega)
              have HB : Aside0 (Tells false (¬ KeyAt l j hlt)) := ⟨tells_no (fun h => h (HKA.out.2 ⟨fun h0 => by rw [HKP.out, HKV.out.1]; exact hcm, by rw [HKV.out.2]; omega⟩))⟩
              clear hv
              go_quiet (fail)
              go_wp2
              go_meet
              exact ⟨false, by first | rfl | simp, HB, HS.drewN _⟩
          · have hls : Op.bytesLess kp.toList k.toList = false := by rw [bytesLess_cmp]; exact decide_eq_false hcm
            have HB : Aside0 (Tells true (¬ KeyAt l j hlt)) := ⟨tells_yes (fun h => absurd (by have := h.key hz; rw [HKP.out, HKV.out.1] at this; exact this) hcm)⟩
            go_quiet (fail)
            go_wp2
            go_meet
            exact ⟨true, by first | rfl | simp, HB, HS.drewN _⟩
      case rest =>
        clear HS
        obtain ⟨bad, rfl, HB, HS⟩ := hcut
        cases bad
        · have HKJ : Aside0 (KeyAt l j hlt) := ⟨Classical.byContradiction (fun h => by have := HB.out.2 h; cases this)⟩
          clear HB
          have q1 : wc.cell? ⟨rb, 1, none⟩ = some (.slice A1 vs.length m) := HS.cell 1
          go_wp2_with fail
          clear q1
          rw [← HPZ.out] at HS
          go_loopw [39] (fun v39 w' => ∃ q : Nat, q ≤ vs.length ∧ v39 = .int .i64 q ∧ Aside0 (∀ p (hp : p < l[j].vs.length), p < q → VerAt l[j].vs p hp) ∧ St w S w' [HP.obj rb 53 [.string k, .slice A1 vs.length m], someH gs (pre l j q hlt)]) (fun v39 _ => vs.length - (intOf v39).toNat)
          case atStart => exact ⟨0, Nat.zero_le _, rfl, ⟨fun p hp h => by omega⟩, HS⟩
          case round =>
            clear HS
            obtain ⟨q, hq, rfl, HQ, HS⟩ := hrel
            by_cases hql : q < vs.length
            · have hqlI : (q : Int) < (vs.length : Int) := by omega
              have hq0 : (0 : Int) ≤ (q : Int) := by omega
              have hqd : decide ((q : Int) < (vs.length : Int)) = true := decide_eq_true hqlI
              obtain ⟨ad2, rfl, y0, y1, y2⟩ := vnC_at (HRV.out wr HS.ext) q hql
              have hqj : q < l[j].vs.length := by rw [HKV.out.2]; exact hql
              have hkept := HPK.out q (by omega) HKJ.out HQ.out
              have hput := HPP.out q hqj hkept.2
              have HKE := Aside0.mk hkept.1
              have HVI : Aside0 ((∀ p (hp : p < l[j].vs.length), p < q + 1 → VerAt l[j].vs p hp) ↔ VerAt l[j].vs q hqj) := ⟨⟨fun h => h q hqj (by omega), fun h p hp hpq => by
                by_cases e : p = q
                · subst e; exact h
                · exact HQ.out p hp (by omega)⟩⟩
              have HNO : Aside0 (¬ VerAt l[j].vs q hqj → ¬ OkL l) := ⟨fun h ho => h ((ho j hlt).2 q hqj)⟩
              clear hkept
              rw [HKV.out.1] at hput
              obtain ⟨x, hx⟩ : ∃ x, l[j].vs[q] = x := ⟨_, rfl⟩
              have hx2 : vs[q] = x := by
                have := HKV.out.2
                subst this
                exact hx
              rw [hx] at hput
              have i0 : wr.cell? (ad2.add (q * 3)) = some (.int .i64 x.ts) := by rw [← hx2]; exact y0
              have i1 : wr.cell? ⟨(ad2.add (q * 3)).block, (ad2.add (q * 3)).off + 1, none⟩ = some (.string x.val) := by rw [← hx2]; exact y1
              have i2 : wr.cell? ⟨(ad2.add (q * 3)).block, (ad2.add (q * 3)).off + 2, none⟩ = some (.bool x.dead) := by rw [← hx2]; exact y2
              have HPT := Aside0.mk hput
              clear hx hx2 hput y0 y1 y2
              go_wp2_with (first
                | ((with_reducible refine gate_dst (N := 8) rfl ?_); refine ev_box ?hg (N := 8) ?hd (cs := [.int .i64 0, .string ⟨#[]⟩, .bool false]) (t := 29) HS ?hr ?_; (case hd => rfl); (case hg => rfl); (case hr => first | (go_simp; done) | (go_simp; rfl)); intro vb w6 HS_ hg_vb; clear HS; have HS := HS_; clear HS_; clear i0 i1 i2)
                | ((with_reducible refine gate_ (.store 29 (.tmp 8) (.tmp 42)) rfl ?_); refine ev_store rfl rfl 29 (.tmp 8) (.tmp 42) rfl HS rfl rfl (seg := [.int .i64 x.ts, .string x.val, .bool x.dead]) rfl ?ht rfl ?hf ?_; (case ht => kernel_rfl); (case hf => first | (simp; done) | (simp [splice]; done)); intro w7 HS_; clear HS; have HS : St w S w7 [HP.obj vb 29 [.int .i64 x.ts, .string x.val, .bool x.dead], HP.obj rb 53 [.string k, .slice (some ad2) vs.length m], someH gs (pre l j q hlt)] := HS_; clear HS_; have p0 : w7.cell? ⟨vb, 0, none⟩ = some (.int .i64 x.ts) := HS.cell 0; have p1 : w7.cell? ⟨vb, 1, none⟩ = some (.string x.val) := HS.cell 1; have p2 : w7.cell? ⟨vb, 2, none⟩ = some (.bool x.dead) := HS.cell 2; have p3 : w7.cell? ⟨rb, 0, none⟩ = some (.string k) := (HS.mv 1).cell 0))
              refine ((putS_fun gs (pre l j q hlt) 1000 HKE.out (by omega) k x).call (F := [HP.obj vb 29 [.int .i64 x.ts, .string x.val, .bool x.dead], HP.obj rb 53 [.string k, .slice (some ad2) vs.length m]]) (HS.mv 2) (fun _ _ _ _ => trivial)).mono ?_
              rintro e_ w8 ⟨rfl, HS_⟩
              clear HS p0 p1 p2 p3
              by_cases hva : VerAt l[j].vs q hqj
              · have hpe := HPT.out.1.2 hva
                have hpp := HPT.out.2 hva
                have HS : St w S w8 [HP.obj rb 53 [.string k, .slice (some ad2) vs.length m], someH gs (pre l j (q + 1) hlt)] := by rw [← hpp]; exact (HS_.out 1).mv 1
                rw [hpe]
                have HQ2 := Aside0.mk (HVI.out.2 hva)
                clear HS_ hpe hpp hva
                go_wp2
                go_roundw
                case rel => exact ⟨q + 1, by omega, by go_num, HQ2, HS⟩
                case measure => simp [intOf]; omega
              · have hpe : (putErr (pre l j q hlt) k x == 0) = false := by
                  have : ¬ putErr (pre l j q hlt) k x = 0 := fun e => hva (HPT.out.1.1 e)
                  simpa using this
                have HN := Aside0.mk (HNO.out hva)
                clear hva
                generalize putErr (pre l j q hlt) k x = pe at hpe ⊢
                go_wp2
                go_ret2
                exact ⟨_, rfl, St.ex_in false (St.and_in ⟨fun h => (by cases h), fun h => absurd h HN.out⟩ (St.add ((HS_.out 0).out 0 |>.out 0) rfl))⟩
            · obtain rfl : q = vs.length := by omega
              have hqd : decide ((vs.length : Int) < (vs.length : Int)) = false := decide_eq_false (by omega)
              have hjl : l[j].vs.length = vs.length := by rw [HKV.out.2]
              have hpz : 0 < vs.length := by have := HKJ.out.some_; omega
              have hpre : pre l j vs.length hlt = l.take (j + 1) := by
                have := HPE.out (by omega)
                exact this
              rw [hpre] at HS
              have HK2 := Aside0.mk (show ∀ i (hi : i < l.length), i < j + 1 → OkAt l i hi from fun i hi hij => by
                by_cases e : i = j
                · subst e
                  exact HOK.out.2 ⟨HKJ.out, fun q hq => HQ.out q hq (by omega)⟩
                · exact HK.out i hi (by omega))
              clear hpre hjl hpz
              go_wp2
              go_roundw
              case rel => exact ⟨j + 1, by omega, by go_num, HK2, HS.out 0⟩
              case measure => simp [intOf]; omega
        · have HN : Aside0 (¬ OkL l) := ⟨fun ho => HB.out.1 rfl (ho j hlt).1⟩
          clear HB
          go_wp2
          go_ret2
          exact ⟨_, rfl, St.ex_in false (St.and_in ⟨fun h => (by cases h), fun h => absurd h HN.out⟩ (St.add ((HS.out 0).out 0) rfl))⟩
    · obtain rfl : j = l.length := by omega
      have hjd : decide ((l.length : Int) < (l.length : Int)) = false := decide_eq_false (by omega)
      rw [List.take_length] at HS
      have HO : Aside0 (OkL l) := ⟨fun i hi => HK.out i hi hi⟩
      go_wp2
      go_ret2
      exact ⟨_, rfl, St.ex_in true (St.and_in ⟨fun _ => HO.out, fun _ => rfl⟩ (St.ex_in gs (St.and_in rfl HS)))⟩
end Go.Proofs.Ytepenfgeeggjmaa.Ver
end
