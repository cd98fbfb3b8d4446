/- Rows whose elements are written-out cells; a map's block: assertions and what a walk does with them. -/
import Derived.Test.YtphenpncdhgdhaaSlStep
import Derived.MapKept
import Derived.Laws.IdiomRangeMap
import Derived.Carry
namespace Go.Proofs.Ytphenpncdhgdhaa.Sl
open Go.RowKit Go.Proofs.YtphenpncdhgdhaaW.PrintWords Go.Proofs.YtphenpncdhgdhaaW.PrintLast Go.Proofs.YtphenpncdhgdhaaW.PrintMore
open HP
set_option linter.unusedVariables false
set_option linter.unusedSimpArgs false
/-- Elements of n cells, written out; they lead nowhere that the row would own. -/
def raw (n : Nat) : Kd (List Value) where
  sz := n
  E := []
  K := fun _ x cs => cs = x ∧ x.length = n ∧ ∀ u ∈ x, u.oneCell' = true
  M := fun _ _ _ x cs => cs = x ∧ x.length = n ∧ ∀ u ∈ x, u.oneCell' = true
  K_len := fun h => by rw [h.1]; exact h.2.1
  K_one := fun h u hu => h.2.2 u (by rw [← h.1]; exact hu)
  K_below := fun _ h => h
  K_of_M := fun h => h
  M_mono := fun _ h => h
  M_bound := fun h => h
  M_move := fun _ h => h
  M_lower := fun _ h => h
theorem raw_flat (n : Nat) : Flat (raw n) := fun _ _ _ _ h => h
/-- Are these n cells that may lie in a row? -/
def Cells (n : Nat) (x : List Value) : Prop := x.length = n ∧ ∀ u ∈ x, u.oneCell' = true
theorem raw_M {n : Nat} {x : List Value} (h : Cells n x) (w : World) (b : Nat) (ok : Nat → Prop) : (raw n).M w b ok x x := ⟨rfl, h.1, h.2⟩
theorem reps_raw {n : Nat} : ∀ {xs : List (List Value)}, (∀ x ∈ xs, Cells n x) → ∀ (w : World) (b : Nat) (ok : Nat → Prop), Reps ((raw n).M w b ok) n xs xs.flatten := by
  intro xs h w b ok
  induction xs with
  | nil => exact Reps.none _ _
  | cons x xs ih =>
    have hx := h x (by simp)
    have h1 := (Reps.none ((raw n).M w b ok) n).snoc (raw_M hx w b ok) hx.1
    exact Kd.reps_append h1 (ih (fun y hy => h y (by simp [hy])))
theorem raw_reps {n : Nat} {w : World} {b : Nat} {ok : Nat → Prop} : ∀ {xs : List (List Value)} {inner : List Value}, Reps ((raw n).M w b ok) n xs inner → inner = xs.flatten ∧ ∀ x ∈ xs, Cells n x := by
  intro xs
  induction xs with
  | nil => intro inner h; refine ⟨?_, by simp⟩; have := h.1; simp at this; simpa using this
  | cons x xs ih =>
    intro inner h
    have h0 := h.2 0 x rfl
    simp only [Nat.zero_mul, List.drop_zero] at h0
    have hlen := h.1
    rw [List.length_cons, Nat.add_mul, Nat.one_mul] at hlen
    have h1 := ih (inner := inner.drop n) ⟨by rw [List.length_drop]; omega, fun j p hj => by
      have := h.2 (j + 1) p (by simpa using hj)
      rw [List.drop_drop]
      rw [Nat.add_mul, Nat.one_mul] at this
      rw [Nat.add_comm]
      exact this⟩
    refine ⟨?_, ?_⟩
    · rw [List.flatten_cons, ← h1.1, ← h0.1, List.take_append_drop]
    · intro y hy
      rcases List.mem_cons.1 hy with rfl | hy
      · exact ⟨h0.2.1, h0.2.2⟩
      · exact h1.2 y hy
/-- A row's block: the elements' cells one behind the other, then whatever. -/
theorem raw_row {n : Nat} {e : TypeId} {w : World} {S : Nat → Prop} {g k cap : Nat} {xs : List (List Value)} :
    (row (raw n) e (.slice (some ⟨g, 0, none⟩) k cap) xs).h w S ↔
      ∃ cur : List Value, (obj g e cur).h w S ∧ k = xs.length ∧ k ≤ cap ∧ cap ≤ 9223372036854775807 ∧ cur.length = cap * n ∧ cur.take (k * n) = xs.flatten ∧ ∀ x ∈ xs, Cells n x := by
  constructor
  · rintro ⟨h0, inner, ⟨h1, h2⟩, hr⟩
    obtain ⟨rfl, hc⟩ := raw_reps hr
    rcases h2 with ⟨h2, _⟩ | ⟨g', cap', cur, h2, _, hh, hle, hm, hsz, ht⟩
    · cases h2
    · simp only [Value.slice.injEq, Option.some.injEq, Addr.mk.injEq] at h2
      obtain ⟨⟨rfl, _⟩, rfl, rfl⟩ := h2
      exact ⟨cur.toList, ⟨by simpa using hh, h0 g rfl⟩, rfl, hle, by simpa [maxLen] using hm, by have h9 : cur.size = cap * n := hsz; simpa using h9, ht, hc⟩
  · rintro ⟨cur, ⟨hh, hS⟩, rfl, hle, hm, hsz, ht, hc⟩
    refine ⟨fun q hq => ?_, xs.flatten, ⟨?_, .inr ⟨g, cap, cur.toArray, rfl, Nat.zero_le _, hh, hle, by simpa [maxLen] using hm, by show cur.toArray.size = cap * n; simpa using hsz, by show List.take (xs.length * n) cur.toArray.toList = xs.flatten; simpa using ht⟩⟩, reps_raw hc _ _ _⟩
    · have : g = q := by simpa [Value.ownBlock] using hq
      subst this
      exact hS
    · have := (reps_raw (w := w) (b := 0) (ok := fun _ => True) hc).1
      exact this
theorem flatten_len {n : Nat} {xs : List (List Value)} (h : ∀ x ∈ xs, Cells n x) : xs.flatten.length = xs.length * n := (reps_raw h default 0 (fun _ => True)).1
theorem flatten_get {n : Nat} : ∀ {xs : List (List Value)} (h : ∀ x ∈ xs, Cells n x) (i j : Nat) (x : List Value), xs[i]? = some x → j < n → xs.flatten[i * n + j]? = x[j]?
  | [], _, _, _, _, h, _ => by simp at h
  | y :: xs, h, 0, j, x, hx, hj => by
    have := (h y (by simp)).1
    simp only [List.getElem?_cons_zero, Option.some.injEq] at hx
    subst hx
    rw [List.flatten_cons, Nat.zero_mul, Nat.zero_add, List.getElem?_append_left (by omega)]
  | y :: xs, h, i + 1, j, x, hx, hj => by
    have h1 := (h y (by simp)).1
    simp only [List.getElem?_cons_succ] at hx
    have h2 := flatten_get (fun z hz => h z (by simp [hz])) i j x hx hj
    rw [List.flatten_cons, List.getElem?_append_right (by rw [h1, Nat.add_mul]; omega), h1, ← h2]
    congr 1
    rw [Nat.add_mul, Nat.one_mul]
    omega
theorem flatten_set {n : Nat} : ∀ {xs : List (List Value)} (h : ∀ x ∈ xs, Cells n x) (i j : Nat) (x : List Value) (v : Value), xs[i]? = some x → j < n → (xs.set i (x.set j v)).flatten = xs.flatten.set (i * n + j) v
  | [], _, _, _, _, _, h, _ => by simp at h
  | y :: xs, h, 0, j, x, v, hx, hj => by
    have := (h y (by simp)).1
    simp only [List.getElem?_cons_zero, Option.some.injEq] at hx
    subst hx
    rw [List.set_cons_zero, List.flatten_cons, List.flatten_cons, Nat.zero_mul, Nat.zero_add, List.set_append_left _ _ (by omega)]
  | y :: xs, h, i + 1, j, x, v, hx, hj => by
    have h1 := (h y (by simp)).1
    simp only [List.getElem?_cons_succ] at hx
    have h2 := flatten_set (fun z hz => h z (by simp [hz])) i j x v hx hj
    rw [List.set_cons_succ, List.flatten_cons, List.flatten_cons, h2, List.set_append_right _ _ (by rw [h1, Nat.add_mul]; omega), h1]
    congr 2
    rw [Nat.add_mul, Nat.one_mul]
    omega
section
variable {w0 w : World} {S0 : Nat → Prop} {F : List HP} {n g k cap : Nat} {e : TypeId} {xs : List (List Value)}
theorem St.raw_all (h : St w0 S0 w (row (raw n) e (.slice (some ⟨g, 0, none⟩) k cap) xs :: F)) : k = xs.length ∧ k ≤ cap ∧ cap ≤ 9223372036854775807 ∧ ∀ x ∈ xs, Cells n x := by
  obtain ⟨_, S, ⟨S1, S2, a, _⟩, _⟩ := h
  obtain ⟨cur, _, h1, h2, h3, _, _, h4⟩ := raw_row.1 a
  exact ⟨h1, h2, h3, h4⟩
/-- A cell of a row. -/
theorem St.raw_cell (h : St w0 S0 w (row (raw n) e (.slice (some ⟨g, 0, none⟩) k cap) xs :: F)) (i j : Nat) {x : List Value} (hx : xs[i]? = some x) (hj : j < n) :
    w.cell? ⟨g, i * n + j, none⟩ = x[j]? ∧ w.frozen? ⟨g, i * n + j, none⟩ = false := by
  obtain ⟨_, S, ⟨S1, S2, a, _⟩, _⟩ := h
  obtain ⟨cur, ⟨hh, _⟩, h1, h2, h3, h5, h6, h4⟩ := raw_row.1 a
  have hi : i < xs.length := (List.getElem?_eq_some_iff.1 hx).1
  have h7 := flatten_get h4 i j x hx hj
  rw [← h6, List.getElem?_take_of_lt (by rw [h1]; calc i * n + j < i * n + n := by omega
    _ = (i + 1) * n := by rw [Nat.add_mul, Nat.one_mul]
    _ ≤ xs.length * n := Nat.mul_le_mul_right _ hi)] at h7
  exact ⟨by simp [World.cell?, hh, h7], by simp [World.frozen?, hh]⟩
/-- One cell of an element is written. -/
theorem St.raw_set (h : St w0 S0 w (row (raw n) e (.slice (some ⟨g, 0, none⟩) k cap) xs :: F)) (i j : Nat) {x : List Value} (hx : xs[i]? = some x) (hj : j < n) (v : Value) (hv : v.oneCell' = true) :
    St w0 S0 (w.setCell ⟨g, i * n + j, none⟩ v) (row (raw n) e (.slice (some ⟨g, 0, none⟩) k cap) (xs.set i (x.set j v)) :: F) := by
  refine h.turn1 (fun S1 a => ⟨S1, ?_, ?_, fun k hk => .inl hk⟩)
  · obtain ⟨cur, ⟨hh, hS⟩, h1, h2, h3, h5, h6, h4⟩ := raw_row.1 a
    have hi : i < xs.length := (List.getElem?_eq_some_iff.1 hx).1
    have hlt : i * n + j < k * n := by
      rw [h1]
      calc i * n + j < i * n + n := by omega
        _ = (i + 1) * n := by rw [Nat.add_mul, Nat.one_mul]
        _ ≤ xs.length * n := Nat.mul_le_mul_right _ hi
    refine raw_row.2 ⟨cur.set (i * n + j) v, ⟨by simp [World.setCell, Array.getElem?_modify, hh], hS⟩, by rw [List.length_set]; exact h1, h2, h3, by rw [List.length_set]; exact h5, ?_, ?_⟩
    · rw [flatten_set h4 i j x v hx hj, ← h6, List.take_set]
    · intro y hy
      rcases List.mem_or_eq_of_mem_set hy with hy | rfl
      · exact h4 y hy
      · have hc := h4 x (List.mem_of_getElem? hx)
        exact ⟨by rw [List.length_set]; exact hc.1, fun u hu => (List.mem_or_eq_of_mem_set hu).elim (hc.2 u) (fun e => e ▸ hv)⟩
  · obtain ⟨cur, ⟨hh, hS⟩, _⟩ := raw_row.1 a
    exact Ext.setCell w _ _ hS
/-- What stands up to a place. -/
theorem St.raw_take {A : Option Addr} (h : St w0 S0 w (row (raw n) e (.slice A k cap) xs :: F)) (m : Nat) (hm : m ≤ xs.length) : St w0 S0 w (row (raw n) e (.slice A m cap) (xs.take m) :: F) :=
  h.head (fun w S a => Kd.R_take a hm)
end
/-! ### maps -/
section
variable {κ ν : Type}
def mget [DecidableEq κ] (m : List (κ × ν)) (k : κ) : Option ν := (m.find? (fun p => decide (p.1 = k))).map (·.2)
def mput [DecidableEq κ] (m : List (κ × ν)) (k : κ) (v : ν) : List (κ × ν) := if (mget m k).isSome then m.map (fun p => if p.1 = k then (k, v) else p) else m ++ [(k, v)]
def mdel [DecidableEq κ] (m : List (κ × ν)) (k : κ) : List (κ × ν) := m.filter (fun p => !decide (p.1 = k))
/-- How a map lies in its block: keys of one plain kind, told apart by what they are written as. -/
structure MapLies (d : TypeDesc) (ek : κ → Value) (ev : ν → Value) (m : List (κ × ν)) (es : Array MapEntry) (clock : Nat) : Prop where
  stamped : MapKept.Stamped es clock
  keys : ∀ k, MapKept.IsKey d (ek k)
  inj : ∀ a b, ek a = ek b → a = b
  lies : es.toList.map (fun e => (e.key, e.val)) = m.map (fun p => (ek p.1, ev p.2))
/-- A map's block: what it holds, in the order in which it came. -/
def map (g : Nat) (d : TypeDesc) (ek : κ → Value) (ev : ν → Value) (m : List (κ × ν)) : HP :=
  ex fun es : Array MapEntry => ex fun clock : Nat => HP.and (MapLies d ek ev m es clock) (own g (.map es clock))
variable {d : TypeDesc} {ek : κ → Value} {ev : ν → Value} {m : List (κ × ν)} {es : Array MapEntry} {clock : Nat}
theorem MapLies.isKey (h : MapLies d ek ev m es clock) : ∀ x ∈ es.toList, MapKept.IsKey d x.key := by
  intro x hx
  have h1 : (x.key, x.val) ∈ m.map (fun p => (ek p.1, ev p.2)) := h.lies ▸ List.mem_map.2 ⟨x, hx, rfl⟩
  obtain ⟨p, _, e⟩ := List.mem_map.1 h1
  rw [← (Prod.mk.inj e).1]
  exact h.keys _
theorem MapLies.nodup (h : MapLies d ek ev m es clock) : (m.map (·.1)).Nodup := by
  have h1 : es.toList.map (·.key) = (m.map (·.1)).map ek := by
    have := congrArg (List.map Prod.fst) h.lies
    simpa [List.map_map, Function.comp_def] using this
  have h2 := h.stamped.2.2
  rw [h1] at h2
  exact (List.pairwise_map.1 h2).imp (fun hab e => hab (by rw [e]))
theorem MapLies.size (h : MapLies d ek ev m es clock) : es.size = m.length := by
  have := congrArg List.length h.lies
  simpa using this
theorem MapLies.at_ (h : MapLies d ek ev m es clock) (j : Nat) (e : MapEntry) (he : es.toList[j]? = some e) : ∃ p, m[j]? = some p ∧ e.key = ek p.1 ∧ e.val = ev p.2 := by
  have h1 : (es.toList.map (fun e => (e.key, e.val)))[j]? = some (e.key, e.val) := by rw [List.getElem?_map, he]; rfl
  rw [h.lies, List.getElem?_map] at h1
  cases hm : m[j]? with
  | none => rw [hm] at h1; cases h1
  | some p =>
    rw [hm] at h1
    simp only [Option.map_some, Option.some.injEq, Prod.mk.injEq] at h1
    exact ⟨p, rfl, h1.1.symm, h1.2.symm⟩
theorem mget_none [DecidableEq κ] (k : κ) (h : ∀ p ∈ m, p.1 ≠ k) : mget m k = none := by
  unfold mget
  rw [List.find?_eq_none.2 (fun p hp => by simpa using h p hp)]
  rfl
theorem mget_at [DecidableEq κ] (hn : (m.map (·.1)).Nodup) (j : Nat) (p : κ × ν) (hp : m[j]? = some p) : mget m p.1 = some p.2 := by
  unfold mget
  have : m.find? (fun q => decide (q.1 = p.1)) = some p := by
    induction m generalizing j with
    | nil => simp at hp
    | cons q m ih =>
      rw [List.map_cons, List.nodup_cons] at hn
      cases j with
      | zero =>
        simp only [List.getElem?_cons_zero, Option.some.injEq] at hp
        subst hp
        simp
      | succ j =>
        simp only [List.getElem?_cons_succ] at hp
        have hne : q.1 ≠ p.1 := fun e => hn.1 (by rw [e]; exact List.mem_map.2 ⟨p, List.mem_of_getElem? hp, rfl⟩)
        rw [List.find?_cons]
        simp only [hne, decide_false]
        exact ih hn.2 j hp
  rw [this]
  rfl
theorem MapLies.find [DecidableEq κ] (h : MapLies d ek ev m es clock) (k : κ) : (Instr.findNow d (ek k) es.toList 0 = some none ∧ mget m k = none ∧ ∀ p ∈ m, p.1 ≠ k) ∨
    ∃ j v e, Instr.findNow d (ek k) es.toList 0 = some (some (j, ev v)) ∧ m[j]? = some (k, v) ∧ es.toList[j]? = some e ∧ e.key = ek k ∧ mget m k = some v := by
  rcases MapKept.findNow_spec (h.keys k) es.toList 0 h.isKey with ⟨h1, h2⟩ | ⟨j, e, h1, h2, h3⟩
  · have h4 : ∀ p ∈ m, p.1 ≠ k := by
      rintro p hp rfl
      obtain ⟨j, hj⟩ := List.mem_iff_getElem?.1 hp
      have h5 : (es.toList.map (fun e => (e.key, e.val)))[j]? = some (ek p.1, ev p.2) := by rw [h.lies, List.getElem?_map, hj]; rfl
      rw [List.getElem?_map] at h5
      cases he : es.toList[j]? with
      | none => rw [he] at h5; cases h5
      | some e =>
        rw [he] at h5
        simp only [Option.map_some, Option.some.injEq, Prod.mk.injEq] at h5
        exact h2 e (List.mem_of_getElem? he) h5.1
    exact .inl ⟨h1, mget_none k h4, h4⟩
  · obtain ⟨p, hp, e1, e2⟩ := h.at_ j e h2
    have hk : p.1 = k := h.inj _ _ (by rw [← e1, h3])
    subst hk
    refine .inr ⟨j, p.2, e, ?_, hp, h2, h3, mget_at h.nodup j p hp⟩
    rw [h1, Nat.zero_add, e2]
theorem mput_new [DecidableEq κ] (k : κ) (v : ν) (h : mget m k = none) : mput m k v = m ++ [(k, v)] := by simp [mput, h]
theorem map_set [DecidableEq κ] (hn : (m.map (·.1)).Nodup) (j : Nat) (k : κ) (v v' : ν) (hp : m[j]? = some (k, v')) : m.map (fun p => if p.1 = k then (k, v) else p) = m.set j (k, v) := by
  induction m generalizing j with
  | nil => simp at hp
  | cons q m ih =>
    rw [List.map_cons, List.nodup_cons] at hn
    cases j with
    | zero =>
      simp only [List.getElem?_cons_zero, Option.some.injEq] at hp
      subst hp
      simp only [List.map_cons, if_true, List.set_cons_zero, List.cons.injEq, true_and]
      conv => rhs; rw [← List.map_id m]
      refine List.map_congr_left (fun p hp => ?_)
      rw [if_neg (fun e => hn.1 (by rw [← e]; exact List.mem_map.2 ⟨p, hp, rfl⟩))]
      rfl
    | succ j =>
      simp only [List.getElem?_cons_succ] at hp
      have hne : q.1 ≠ k := fun e => hn.1 (by rw [e]; exact List.mem_map.2 ⟨(k, v'), List.mem_of_getElem? hp, rfl⟩)
      rw [List.map_cons, if_neg hne, List.set_cons_succ, ih hn.2 j hp]
theorem filter_erase [DecidableEq κ] (hn : (m.map (·.1)).Nodup) (j : Nat) (k : κ) (v' : ν) (hp : m[j]? = some (k, v')) : mdel m k = m.eraseIdx j := by
  unfold mdel
  induction m generalizing j with
  | nil => simp at hp
  | cons q m ih =>
    rw [List.map_cons, List.nodup_cons] at hn
    cases j with
    | zero =>
      simp only [List.getElem?_cons_zero, Option.some.injEq] at hp
      subst hp
      simp only [List.filter_cons, decide_true, Bool.not_true, Bool.false_eq_true, if_false, List.eraseIdx_cons_zero]
      exact List.filter_eq_self.2 (fun p hp => by
        have : p.1 ≠ k := fun e => hn.1 (by rw [← e]; exact List.mem_map.2 ⟨p, hp, rfl⟩)
        simpa using this)
    | succ j =>
      simp only [List.getElem?_cons_succ] at hp
      have hne : q.1 ≠ k := fun e => hn.1 (by rw [e]; exact List.mem_map.2 ⟨(k, v'), List.mem_of_getElem? hp, rfl⟩)
      rw [List.filter_cons]
      simp only [hne, decide_false, Bool.not_false, if_true, List.eraseIdx_cons_succ]
      rw [ih hn.2 j hp]
theorem erase_map {α β : Type} (f : α → β) : ∀ (l : List α) (i : Nat), (l.eraseIdx i).map f = (l.map f).eraseIdx i
  | [], _ => by simp
  | _ :: _, 0 => by simp
  | x :: l, i + 1 => by simp [erase_map f l i]
theorem mdel_none [DecidableEq κ] (k : κ) (h : ∀ p ∈ m, p.1 ≠ k) : mdel m k = m := List.filter_eq_self.2 (fun p hp => by simpa using h p hp)
section
variable {P : Program} {w0 w : World} {S0 : Nat → Prop} {F : List HP} {g : Nat} {t kt et : TypeId}
/-- An empty one, just made. -/
theorem St.map_made (h : St w0 S0 w F) (d : TypeDesc) (ek : κ → Value) (ev : ν → Value) (hk : ∀ k, MapKept.IsKey d (ek k)) (inj : ∀ a b, ek a = ek b → a = b) : St w0 S0 (w.alloc (.map #[] 0)) (map w.heap.size d ek ev ([] : List (κ × ν)) :: F) :=
  (h.alloc (.map #[] 0)).head (fun _ _ a => ⟨#[], 0, ⟨MapKept.stamped_empty 0, hk, inj, rfl⟩, a⟩)
theorem St.map_open (h : St w0 S0 w (map g d ek ev m :: F)) : ∃ es clock, MapLies d ek ev m es clock ∧ St w0 S0 w (own g (.map es clock) :: F) := by
  obtain ⟨es, h⟩ := St.ex_ h
  obtain ⟨clock, h⟩ := St.ex_ h
  obtain ⟨hl, h⟩ := St.and_ h
  exact ⟨es, clock, hl, h⟩
theorem St.map_shut (h : St w0 S0 w (own g (.map es clock) :: F)) (hl : MapLies d ek ev m es clock) : St w0 S0 w (map g d ek ev m :: F) := St.ex_in es (St.ex_in clock (St.and_in hl h))
theorem St.map_nodup (h : St w0 S0 w (map g d ek ev m :: F)) : (m.map (·.1)).Nodup := by
  obtain ⟨es, clock, hl, _⟩ := St.map_open h
  exact hl.nodup
/-- What a look-up hands out. -/
def oval (ev : ν → Value) (z : Value) : Option ν → Value
  | some v => ev v
  | none => z
/-- v, ok := m[k] -/
theorem St.map_look [DecidableEq κ] (h : St w0 S0 w (map g d ek ev m :: F)) (ht : P.underlying t = some (.map kt et)) (hk : P.underlying kt = some d) (k : κ) {z : Value} (hz : ∀ w, (zeroValue et).run P w = .ok z w) :
    (Instr.lookup t (.map (some g)) (ek k) true).run P w = .ok (.tuple #[oval ev z (mget m k), .bool (mget m k).isSome]) w ∧
    (Instr.lookup t (.map (some g)) (ek k) false).run P w = .ok (oval ev z (mget m k)) w := by
  obtain ⟨es, clock, hl, h⟩ := St.map_open h
  have hb := h.blk
  rcases hl.find k with ⟨h1, h2, _⟩ | ⟨j, v, e, h1, _, _, _, h2⟩
  · simp [Instr.lookup, run_underlying ht, MapKept.run_getObj_map hb, MapKept.run_checkKey hk (hl.keys k), MapKept.run_findKey hk h1, Result.andThen, h2, hz, oval]
  · simp [Instr.lookup, run_underlying ht, MapKept.run_getObj_map hb, MapKept.run_checkKey hk (hl.keys k), MapKept.run_findKey hk h1, Result.andThen, h2, oval]
theorem St.own_turn {o o' : Obj} (h : St w0 S0 w (own g o :: F)) : St w0 S0 { w with heap := w.heap.setIfInBounds g o' } (own g o' :: F) :=
  h.turn1 (fun S1 a => ⟨S1, ⟨(MapKept.heap_set a.1).1, a.2⟩, ⟨rfl, rfl, rfl, by simp, fun i _ hn => (MapKept.heap_set a.1).2 i (fun e => hn (e ▸ a.2))⟩, fun k hk => .inl hk⟩)
/-- m[k] = v -/
theorem St.map_store [DecidableEq κ] (h : St w0 S0 w (map g d ek ev m :: F)) (ht : P.underlying t = some (.map kt et)) (hk : P.underlying kt = some d) (k : κ) (v : ν) :
    ∃ w', (Instr.mapUpdate t (.map (some g)) (ek k) (ev v)).run P w = .ok () w' ∧ St w0 S0 w' (map g d ek ev (mput m k v) :: F) := by
  obtain ⟨es, clock, hl, h⟩ := St.map_open h
  have hb := h.blk
  rcases hl.find k with ⟨h1, h2, h3⟩ | ⟨j, v', e, h1, h2, h3, h4, h5⟩
  · refine ⟨{ w with heap := w.heap.setIfInBounds g (.map (es.push { key := ek k, val := ev v, born := clock }) (clock + 1)) }, by simp [Instr.mapUpdate, run_underlying ht, MapKept.run_getObj_map hb, MapKept.run_checkKey hk (hl.keys k), MapKept.run_findKey hk h1, MapKept.run_setObj_map _ hb, Result.andThen], ?_⟩
    refine St.map_shut h.own_turn ⟨MapKept.stamped_push hl.stamped (fun x hx e => ?_), hl.keys, hl.inj, ?_⟩
    · obtain ⟨i, hi⟩ := List.mem_iff_getElem?.1 hx
      obtain ⟨p, hp, e1, _⟩ := hl.at_ i x hi
      exact h3 p (List.mem_of_getElem? hp) (hl.inj _ _ (by rw [← e1, e]))
    · rw [mput_new k v h2]
      simp [hl.lies]
  · have hj : es[j]? = some e := by simpa using h3
    refine ⟨{ w with heap := w.heap.setIfInBounds g (.map (es.modify j fun e => { e with key := ek k, val := ev v }) clock) }, by simp [Instr.mapUpdate, run_underlying ht, MapKept.run_getObj_map hb, MapKept.run_checkKey hk (hl.keys k), MapKept.run_findKey hk h1, hj, h4, MapKept.run_keyThatStays (hl.keys k), MapKept.run_setObj_map _ hb, Result.andThen], ?_⟩
    refine St.map_shut h.own_turn ⟨MapKept.stamped_modify hl.stamped _ _ (fun _ _ => rfl) (fun e' _ he' => by rw [hj] at he'; cases he'; exact h4.symm), hl.keys, hl.inj, ?_⟩
    have hm : mput m k v = m.set j (k, v) := by
      unfold mput
      rw [h5]
      exact map_set hl.nodup j k v v' h2
    rw [hm, List.map_set, ← hl.lies]
    apply List.ext_getElem?
    intro i
    rw [List.getElem?_map, List.getElem?_set, List.getElem?_map, List.length_map]
    simp only [Array.getElem?_toList, Array.getElem?_modify]
    by_cases hij : j = i
    · subst hij
      have hlt : j < es.toList.length := (List.getElem?_eq_some_iff.1 h3).1
      simp [hj]
      simpa using hlt
    · simp [hij]
/-- delete(m, k) -/
theorem St.map_drop [DecidableEq κ] (h : St w0 S0 w (map g d ek ev m :: F)) (ht : P.underlying t = some (.map kt et)) (hk : P.underlying kt = some d) (ty : TypeId) (k : κ) :
    ∃ w', (Builtin.delete_ #[t, kt] ty #[.map (some g), ek k]).run P w = .ok (.tuple #[]) w' ∧ St w0 S0 w' (map g d ek ev (mdel m k) :: F) := by
  obtain ⟨es, clock, hl, h⟩ := St.map_open h
  have hb := h.blk
  rcases hl.find k with ⟨h1, h2, h3⟩ | ⟨j, v', e, h1, h2, h3, h4, h5⟩
  · refine ⟨{ w with heap := w.heap.setIfInBounds g (.map es clock) }, by simp [Builtin.delete_, run_underlying ht, MapKept.run_getObj_map hb, MapKept.run_checkKey hk (hl.keys k), MapKept.run_findKey hk h1, MapKept.run_setObj_map _ hb, Result.andThen], ?_⟩
    rw [mdel_none k h3]
    exact St.map_shut h.own_turn hl
  · refine ⟨{ w with heap := w.heap.setIfInBounds g (.map (es.eraseIdxIfInBounds j) clock) }, by simp [Builtin.delete_, run_underlying ht, MapKept.run_getObj_map hb, MapKept.run_checkKey hk (hl.keys k), MapKept.run_findKey hk h1, MapKept.run_setObj_map _ hb, Result.andThen], ?_⟩
    refine St.map_shut h.own_turn ⟨MapKept.stamped_erase hl.stamped _, hl.keys, hl.inj, ?_⟩
    have hlt : j < es.size := by have := (List.getElem?_eq_some_iff.1 h3).1; simpa using this
    rw [filter_erase hl.nodup j k v' h2]
    have e1 : (es.eraseIdxIfInBounds j).toList = es.toList.eraseIdx j := by
      unfold Array.eraseIdxIfInBounds
      rw [dif_pos hlt, Array.toList_eraseIdx]
    rw [e1, erase_map, erase_map, hl.lies]
/-- len(m) -/
theorem St.map_size (h : St w0 S0 w (map g d ek ev m :: F)) : ∃ es clock, w.heap[g]? = some (.map es clock) ∧ es.size = m.length := by
  obtain ⟨es, clock, hl, h⟩ := St.map_open h
  exact ⟨es, clock, h.blk, hl.size⟩
end
end
end Go.Proofs.Ytphenpncdhgdhaa.Sl
