/- An agenda and the document's list: plain. -/
import Derived.Test.YtiobcknobbimoaaAgG
import Derived.Test.YtiobcknobbimoaaSlRaw
namespace Go.Proofs.Ytiobcknobbimoaa.Ag
open Go.RowKit Go.Proofs.Ytiobcknobbimoaa.Sl
set_option linter.unusedVariables false
set_option linter.unusedSimpArgs false
structure Th where
  what : Int
  due : Int
def th (x : It) : Th := ⟨x.what, x.due⟩
def dropL (L : List Th) (k : Int) : List Th := L.filter (fun t => decide (t.what ≠ k))
def setL (L : List Th) (k due : Int) : List Th := dropL L k ++ [⟨k, due⟩]
def nextL : List Th → Option Th
  | [] => none
  | x :: L => match nextL L with
    | none => some x
    | some y => if y.due < x.due then some y else some x
theorem nextL_none : ∀ {L : List Th}, nextL L = none → L = []
  | [], _ => rfl
  | x :: L, h => by
    unfold nextL at h
    cases hn : nextL L with
    | none => rw [hn] at h; cases h
    | some y =>
      rw [hn] at h
      by_cases hc : y.due < x.due
      · simp [hc] at h
      · simp [hc] at h
/-- The first of those that are due first. -/
theorem nextL_at : ∀ (L : List Th) (i : Nat) (hi : i < L.length) (h1 : ∀ j (hj : j < L.length), L[i].due ≤ L[j].due) (h2 : ∀ j (hj : j < i), L[i].due < (L[j]'(by omega)).due), nextL L = some L[i]
  | x :: L, 0, hi, h1, h2 => by
    unfold nextL
    cases hn : nextL L with
    | none => rfl
    | some y =>
      have hm : y ∈ L := by
        clear h1 h2 hi
        induction L generalizing y with
        | nil => simp [nextL] at hn
        | cons z L ih =>
          unfold nextL at hn
          cases hz : nextL L with
          | none => rw [hz] at hn; simp at hn; simp [hn]
          | some u =>
            rw [hz] at hn
            by_cases hc : u.due < z.due
            · simp [hc] at hn; subst hn; exact List.mem_cons_of_mem _ (ih u hz)
            · simp [hc] at hn; simp [hn]
      obtain ⟨j, hj, e⟩ := List.getElem_of_mem hm
      have := h1 (j + 1) (by simpa using hj)
      simp only [List.getElem_cons_zero, List.getElem_cons_succ, e] at this
      show (if y.due < x.due then some y else some x) = some x
      rw [if_neg (by omega)]
  | x :: L, i + 1, hi, h1, h2 => by
    have ih := nextL_at L i (by simpa using hi) (fun j hj => h1 (j + 1) (by simpa using hj)) (fun j hj => h2 (j + 1) (by omega))
    unfold nextL
    rw [ih]
    have := h2 0 (by omega)
    simp only [List.getElem_cons_zero, List.getElem_cons_succ] at this
    show (if (L[i]'(by simpa using hi)).due < x.due then some (L[i]'(by simpa using hi)) else some x) = _
    rw [if_pos this]
    rfl
def MapOf (m : List (Int × Nat)) (q : List It) : Prop := ∀ k g, mget m k = some g ↔ ∃ x ∈ q, x.what = k ∧ x.g = g
/-- The queue, the map, and the document's list with its turns. -/
structure Ag (q : List It) (m : List (Int × Nat)) (L' : List It) (L : List Th) (tn : Nat) : Prop where
  perm : q.Perm L'
  heap : HeapN q q.length
  mp : MapOf m q
  eq : L'.map th = L
  up : L'.Pairwise (fun x y => x.turn < y.turn)
  ne : L'.Pairwise (fun x y => x.what ≠ y.what)
  le : ∀ x ∈ L', x.turn ≤ (tn : Int)
  len : L.length ≤ tn
theorem ag_nil : Ag [] [] [] [] 0 := ⟨List.Perm.refl _, fun k _ h => by simp at h, fun k g => by simp [mget], rfl, List.Pairwise.nil, List.Pairwise.nil, fun x h => by simp at h, Nat.le_refl _⟩
theorem ag_len {q m L' L tn} (h : Ag q m L' L tn) : q.length = L.length := by rw [h.perm.length_eq, ← h.eq, List.length_map]
theorem ag_next {q m L' L tn} (h : Ag q m L' L tn) : nextL L = if 0 < q.length then some (th (at_ q 0)) else none := by
  by_cases h0 : 0 < q.length
  · rw [if_pos h0]
    have hm : at_ q 0 ∈ L' := h.perm.mem_iff.1 (by rw [at_get q 0 h0]; exact List.getElem_mem h0)
    obtain ⟨i, hi, e⟩ := List.getElem_of_mem hm
    have hmin : ∀ x ∈ L', ¬ LtI x (at_ q 0) := fun x hx => by
      obtain ⟨k, hk, ek⟩ := List.getElem_of_mem (h.perm.mem_iff.2 hx)
      have := heap_first h.heap k hk
      rw [at_get q k hk, ek] at this
      exact this
    have hil : i < L.length := by rw [← h.eq, List.length_map]; exact hi
    have hg : ∀ j (hj : j < L'.length), (L[j]'(by rw [← h.eq, List.length_map]; exact hj)) = th L'[j] := fun j hj => by
      have := h.eq
      subst this
      simp
    have := nextL_at L i hil (fun j hj => by
      have hj' : j < L'.length := by rw [← h.eq, List.length_map] at hj; exact hj
      have h1 := hmin L'[j] (List.getElem_mem hj')
      rw [← e] at h1
      rw [hg i hi, hg j hj']
      show L'[i].due ≤ L'[j].due
      unfold LtI at h1
      omega) (fun j hj => by
      have hj' : j < L'.length := by omega
      have h1 := hmin L'[j] (List.getElem_mem hj')
      have h2 := List.pairwise_iff_getElem.1 h.up j i hj' hi hj
      rw [← e] at h1
      rw [hg i hi, hg j hj']
      show L'[i].due < L'[j].due
      unfold LtI at h1
      omega)
    rw [this, hg i hi, e]
  · rw [if_neg h0]
    have : L = [] := List.length_eq_zero_iff.1 (by rw [← ag_len h]; omega)
    rw [this]
    rfl
/-- Where a thing stands. -/
theorem ag_find {q m L' L tn} (h : Ag q m L' L tn) {k : Int} {g : Nat} (hg : mget m k = some g) : ∃ i, i < q.length ∧ (at_ q i).what = k ∧ (at_ q i).g = g := by
  obtain ⟨x, hx, h1, h2⟩ := (h.mp k g).1 hg
  obtain ⟨i, hi, e⟩ := List.getElem_of_mem hx
  refine ⟨i, hi, ?_, ?_⟩ <;> rw [at_get q i hi, e] <;> assumption
theorem ag_ne {q m L' L tn} (h : Ag q m L' L tn) : q.Pairwise (fun x y => x.what ≠ y.what) := (h.perm.pairwise_iff (fun h e => h e.symm)).2 h.ne
theorem erase_filter {q L' : List It} (hp : q.Perm L') (hne : q.Pairwise (fun x y => x.what ≠ y.what)) (i : Nat) (hi : i < q.length) : (q.eraseIdx i).Perm (L'.filter (fun y => decide (y.what ≠ (at_ q i).what))) := by
  have h1 := perm_front q i hi
  have h2 := ((h1.symm.trans hp).filter (fun y => decide (y.what ≠ (at_ q i).what)))
  rw [at_get q i hi] at h2 ⊢
  rw [List.filter_cons_of_neg (by simp)] at h2
  have h3 : (q.eraseIdx i).filter (fun y => decide (y.what ≠ q[i].what)) = q.eraseIdx i := List.filter_eq_self.2 (fun y hy => by
    have hpw := (h1.pairwise_iff (fun {x y} (h : x.what ≠ y.what) e => h e.symm)).1 hne
    have := (List.pairwise_cons.1 hpw).1 y hy
    simpa using fun e => this e.symm)
  rw [h3] at h2
  exact h2
theorem map_filter (L' : List It) (k : Int) : (L'.filter (fun y => decide (y.what ≠ k))).map th = dropL (L'.map th) k := by
  unfold dropL
  rw [List.filter_map]
  rfl
theorem dropL_none {L : List Th} {k : Int} (h : ∀ t ∈ L, t.what ≠ k) : dropL L k = L := List.filter_eq_self.2 (fun t ht => by simpa using h t ht)
theorem mget_push [DecidableEq Int] (m : List (Int × Nat)) (k : Int) (g : Nat) (h : mget m k = none) (k' : Int) : mget (m ++ [(k, g)]) k' = if k' = k then some g else mget m k' := by
  unfold mget at h ⊢
  rw [List.find?_append]
  by_cases e : k' = k
  · subst e
    rw [if_pos rfl]
    have : m.find? (fun p => decide (p.1 = k')) = none := by simpa using h
    rw [this]
    simp
  · rw [if_neg e]
    have : ([(k, g)] : List (Int × Nat)).find? (fun p => decide (p.1 = k')) = none := by simp [Ne.symm e]
    rw [this]
    simp
theorem mget_del (m : List (Int × Nat)) (k k' : Int) : mget (mdel m k) k' = if k' = k then none else mget m k' := by
  unfold mget mdel
  rw [List.find?_filter]
  by_cases e : k' = k
  · subst e
    rw [if_pos rfl]
    rw [List.find?_eq_none.2 (fun p hp => by simp)]
    rfl
  · rw [if_neg e]
    congr 2
    funext p
    by_cases h : p.1 = k'
    · simp [h, e]
    · simp [h]
/-- A new thing. -/
theorem ag_new {q m L' L tn} (h : Ag q m L' L tn) (k due : Int) (g : Nat) (hk : mget m k = none) {q' : List It} (hp : q'.Perm (q ++ [⟨k, due, (tn + 1 : Nat), g⟩])) (hh : HeapN q' q'.length) :
    Ag q' (mput m k g) (L' ++ [⟨k, due, (tn + 1 : Nat), g⟩]) (setL L k due) (tn + 1) := by
  have hnk : ∀ x ∈ L', x.what ≠ k := fun x hx e => by
    have := (h.mp k x.g).2 ⟨x, h.perm.mem_iff.2 hx, e, rfl⟩
    rw [hk] at this
    cases this
  have hd : dropL L k = L := dropL_none (fun t ht => by
    rw [← h.eq] at ht
    obtain ⟨x, hx, rfl⟩ := List.mem_map.1 ht
    exact hnk x hx)
  refine ⟨hp.trans (h.perm.append_right _), hh, fun k' g' => ?_, ?_, ?_, ?_, ?_, ?_⟩
  · rw [mput_new k g hk, mget_push m k g hk]
    by_cases e : k' = k
    · subst e
      rw [if_pos rfl]
      constructor
      · intro e
        obtain rfl := Option.some.inj e
        exact ⟨_, hp.mem_iff.2 (List.mem_append.2 (.inr (List.mem_singleton.2 rfl))), rfl, rfl⟩
      · rintro ⟨x, hx, e1, e2⟩
        rcases List.mem_append.1 (hp.mem_iff.1 hx) with hx | hx
        · exact absurd e1 (hnk x (h.perm.mem_iff.1 hx))
        · rw [List.mem_singleton.1 hx] at e2
          rw [← e2]
    · rw [if_neg e, h.mp k' g']
      constructor
      · rintro ⟨x, hx, e1, e2⟩
        exact ⟨x, hp.mem_iff.2 (List.mem_append.2 (.inl hx)), e1, e2⟩
      · rintro ⟨x, hx, e1, e2⟩
        rcases List.mem_append.1 (hp.mem_iff.1 hx) with hx | hx
        · exact ⟨x, hx, e1, e2⟩
        · rw [List.mem_singleton.1 hx] at e1
          exact absurd e1.symm e
  · rw [List.map_append, h.eq, setL, hd]
    rfl
  · refine List.pairwise_append.2 ⟨h.up, List.pairwise_singleton _ _, fun x hx y hy => ?_⟩
    rw [List.mem_singleton.1 hy]
    have := h.le x hx
    show x.turn < ((tn + 1 : Nat) : Int)
    omega
  · refine List.pairwise_append.2 ⟨h.ne, List.pairwise_singleton _ _, fun x hx y hy => ?_⟩
    rw [List.mem_singleton.1 hy]
    exact hnk x hx
  · intro x hx
    rcases List.mem_append.1 hx with hx | hx
    · have := h.le x hx; omega
    · rw [List.mem_singleton.1 hx]; exact Int.le_refl _
  · rw [setL, hd, List.length_append, List.length_singleton]
    have := h.len
    omega
/-- A thing is set again. -/
theorem ag_again {q m L' L tn} (h : Ag q m L' L tn) (i : Nat) (hi : i < q.length) (due : Int) {q' : List It} (hp : q'.Perm (q.set i ⟨(at_ q i).what, due, (tn + 1 : Nat), (at_ q i).g⟩)) (hh : HeapN q' q'.length) :
    ∃ L'', Ag q' m L'' (setL L (at_ q i).what due) (tn + 1) := by
  have hpe := erase_filter h.perm (ag_ne h) i hi
  have hx : at_ q i ∈ q := by rw [at_get q i hi]; exact List.getElem_mem hi
  have h1 := hp.trans (set_front q i _ hi)
  have h2 : q'.Perm (L'.filter (fun y => decide (y.what ≠ (at_ q i).what)) ++ [⟨(at_ q i).what, due, (tn + 1 : Nat), (at_ q i).g⟩]) := h1.trans ((hpe.cons _).trans (List.perm_append_comm (l₁ := [_])))
  refine ⟨_, ⟨h2, hh, fun k g => ?_, ?_, ?_, ?_, ?_, ?_⟩⟩
  · rw [h.mp k g]
    have hmem : ∀ y : It, y ∈ q' ↔ y = ⟨(at_ q i).what, due, (tn + 1 : Nat), (at_ q i).g⟩ ∨ y ∈ q.eraseIdx i := fun y => by rw [h1.mem_iff]; simp
    have hmq : ∀ y : It, y ∈ q ↔ y = at_ q i ∨ y ∈ q.eraseIdx i := fun y => by rw [(perm_front q i hi).mem_iff, at_get q i hi]; simp
    constructor
    · rintro ⟨x, hx, e1, e2⟩
      rcases (hmq x).1 hx with rfl | hx
      · exact ⟨_, (hmem _).2 (.inl rfl), e1, e2⟩
      · exact ⟨x, (hmem x).2 (.inr hx), e1, e2⟩
    · rintro ⟨x, hx, e1, e2⟩
      rcases (hmem x).1 hx with rfl | hx
      · exact ⟨at_ q i, (hmq _).2 (.inl rfl), e1, e2⟩
      · exact ⟨x, (hmq x).2 (.inr hx), e1, e2⟩
  · rw [List.map_append, map_filter, h.eq, setL]
    rfl
  · refine List.pairwise_append.2 ⟨h.up.sublist List.filter_sublist, List.pairwise_singleton _ _, fun x hx y hy => ?_⟩
    rw [List.mem_singleton.1 hy]
    have := h.le x ((List.mem_filter.1 hx).1)
    show x.turn < ((tn + 1 : Nat) : Int)
    omega
  · refine List.pairwise_append.2 ⟨h.ne.sublist List.filter_sublist, List.pairwise_singleton _ _, fun x hx y hy => ?_⟩
    rw [List.mem_singleton.1 hy]
    simpa using (List.mem_filter.1 hx).2
  · intro x hx
    rcases List.mem_append.1 hx with hx | hx
    · have := h.le x ((List.mem_filter.1 hx).1); omega
    · rw [List.mem_singleton.1 hx]; exact Int.le_refl _
  · rw [setL, List.length_append, List.length_singleton]
    have := h.len
    have : (dropL L (at_ q i).what).length ≤ L.length := List.length_filter_le _ _
    omega
/-- A thing is there no more. -/
theorem ag_drop {q m L' L tn} (h : Ag q m L' L tn) (i : Nat) (hi : i < q.length) {q' : List It} (hp : q'.Perm (q.eraseIdx i)) (hh : HeapN q' q'.length) :
    ∃ L'', Ag q' (mdel m (at_ q i).what) L'' (dropL L (at_ q i).what) tn := by
  have hpe := erase_filter h.perm (ag_ne h) i hi
  refine ⟨_, ⟨hp.trans hpe, hh, fun k g => ?_, ?_, h.up.sublist List.filter_sublist, h.ne.sublist List.filter_sublist, fun x hx => h.le x ((List.mem_filter.1 hx).1), ?_⟩⟩
  · rw [mget_del]
    have hmem : ∀ y : It, y ∈ q' ↔ y ∈ L' ∧ y.what ≠ (at_ q i).what := fun y => by rw [(hp.trans hpe).mem_iff, List.mem_filter]; simp
    by_cases e : k = (at_ q i).what
    · rw [if_pos e]
      constructor
      · intro h; cases h
      · rintro ⟨x, hx, e1, e2⟩
        exact absurd (e1.trans e) ((hmem x).1 hx).2
    · rw [if_neg e, h.mp k g]
      constructor
      · rintro ⟨x, hx, e1, e2⟩
        exact ⟨x, (hmem x).2 ⟨h.perm.mem_iff.1 hx, fun h => e (e1.symm.trans h)⟩, e1, e2⟩
      · rintro ⟨x, hx, e1, e2⟩
        exact ⟨x, h.perm.mem_iff.2 ((hmem x).1 hx).1, e1, e2⟩
  · rw [map_filter, h.eq]
  · have := h.len
    have : (dropL L (at_ q i).what).length ≤ L.length := List.length_filter_le _ _
    omega
theorem ag_absent {q m L' L tn} (h : Ag q m L' L tn) (k : Int) (hk : mget m k = none) : dropL L k = L := dropL_none (fun t ht e => by
  rw [← h.eq] at ht
  obtain ⟨x, hx, rfl⟩ := List.mem_map.1 ht
  have := (h.mp k x.g).2 ⟨x, h.perm.mem_iff.2 hx, e, rfl⟩
  rw [hk] at this
  cases this)
end Go.Proofs.Ytiobcknobbimoaa.Ag
