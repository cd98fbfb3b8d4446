/- The document's Span, walked. -/
import Derived.Test.YtepenfgeeggjmaaLogR
namespace Go.Proofs.Ytepenfgeeggjmaa.Ver
open Go.RowKit Go.Proofs.YtepenfgeeggjmaaW.PrintWords Go.Proofs.YtepenfgeeggjmaaW.PrintLast Go.Proofs.YtepenfgeeggjmaaW.PrintMore Go.Proofs.Ytepenfgeeggjmaa.Sl Go.Proofs.Ytepenfgeeggjmaa.Str Go.Proofs.Ytepenfgeeggjmaa.Row
set_option linter.unusedVariables false
set_option linter.unusedSimpArgs false
/-- A deep row whose elements' second cells are fixed. -/
def rowF (g : Nat) (us : Nat → Value) (v : Value) (rows : List Rw) : HP where
  h := fun w S => (HP.row kRw 53 v rows).h w S ∧ (0 < rows.length → S g) ∧ ∀ i, i < rows.length → w.cell? ⟨g, i * 2 + 1, none⟩ = some (us i)
  mono := fun ⟨a, b, c⟩ hs => ⟨(HP.row kRw 53 v rows).mono a hs, fun h => hs _ (b h), c⟩
  step := fun {w w' S} ⟨a, b, c⟩ hs => ⟨(HP.row kRw 53 v rows).step a hs, b, fun i hi => by
    have h1 := c i hi
    have h2 := hs g (b (by omega)) (World.block_lt_of_cell? w _ h1)
    simpa [World.cell?, h2] using h1⟩
  bound := fun {w S} ⟨a, b, c⟩ => ⟨(HP.row kRw 53 v rows).bound a, fun h => ⟨b h, World.block_lt_of_cell? w _ (c 0 h)⟩, c⟩
theorem rw_get {w0 w : World} {S0 : Nat → Prop} {F : List HP} {g n c : Nat} {rows : List Rw} (h : St w0 S0 w (HP.row kRw 53 (.slice (some ⟨g, 0, none⟩) n c) rows :: F)) (i : Nat) (hi : i < rows.length) :
    ∃ A1 c1, w.cell? ⟨g, i * 2, none⟩ = some (.string rows[i].key) ∧ w.cell? ⟨g, i * 2 + 1, none⟩ = some (.slice A1 rows[i].vs.length c1) ∧ rows[i].vs.length ≤ c1 ∧ kVn.C w A1 rows[i].vs.length rows[i].vs := by
  have hC := (St.row_reads h).2.2
  obtain ⟨ad, e1, hc⟩ := hC.2.2 (by omega)
  obtain rfl : ad = ⟨g, 0, none⟩ := (Option.some.inj e1).symm
  obtain ⟨cs, _, hK, hcell⟩ := hc i rows[i] (List.getElem?_eq_getElem hi)
  obtain ⟨A1, c1, rfl, h1, h2⟩ := kRw_open hK
  have q0 := hcell 0 _ rfl
  have q1 := hcell 1 _ rfl
  rw [add_plain] at q0 q1
  exact ⟨A1, c1, q0, q1, h1, h2⟩
theorem rowF_of {w0 w : World} {S0 : Nat → Prop} {F : List HP} {g n c : Nat} {rows : List Rw} (h : St w0 S0 w (HP.row kRw 53 (.slice (some ⟨g, 0, none⟩) n c) rows :: F)) : ∃ us, St w0 S0 w (rowF g us (.slice (some ⟨g, 0, none⟩) n c) rows :: F) := by
  refine ⟨fun i => (w.cell? ⟨g, i * 2 + 1, none⟩).getD default, h.ext, ?_⟩
  have hg := fun i hi => rw_get h i hi
  obtain ⟨S, ⟨S1, S2, a, b, d, s1, s2⟩, s⟩ := h.holds
  refine ⟨S, ⟨S1, S2, ⟨a, fun _ => a.1 g (by simp [Value.ownBlock]), fun i hi => ?_⟩, b, d, s1, s2⟩, s⟩
  obtain ⟨A1, c1, q0, q1, _⟩ := hg i hi
  show _ = some ((w.cell? ⟨g, i * 2 + 1, none⟩).getD default)
  rw [q1]
  rfl
theorem rowF_back {w0 w : World} {S0 : Nat → Prop} {F : List HP} {g : Nat} {us : Nat → Value} {v : Value} {rows : List Rw} (h : St w0 S0 w (rowF g us v rows :: F)) : St w0 S0 w (HP.row kRw 53 v rows :: F) := h.head (fun _ _ h => h.1)
theorem rowF_at {w0 w : World} {S0 : Nat → Prop} {F : List HP} {g n c : Nat} {us : Nat → Value} {rows : List Rw} (h : St w0 S0 w (rowF g us (.slice (some ⟨g, 0, none⟩) n c) rows :: F)) (i : Nat) (hi : i < rows.length) :
    ∃ A1 c1, us i = .slice A1 rows[i].vs.length c1 ∧ w.cell? ⟨g, i * 2, none⟩ = some (.string rows[i].key) ∧ w.cell? ⟨g, i * 2 + 1, none⟩ = some (.slice A1 rows[i].vs.length c1) ∧ rows[i].vs.length ≤ c1 ∧ kVn.C w A1 rows[i].vs.length rows[i].vs := by
  obtain ⟨A1, c1, q0, q1, h1, h2⟩ := rw_get (rowF_back h) i hi
  obtain ⟨S, ⟨S1, S2, a, _⟩, _⟩ := h.holds
  have := a.2.2 i hi
  rw [q1] at this
  exact ⟨A1, c1, (Option.some.inj this).symm, q0, q1, h1, h2⟩
/-- The same at whatever world: what was fixed stays. -/
theorem rowF_same {w0 w : World} {S0 : Nat → Prop} {F : List HP} {g n c : Nat} {us : Nat → Value} {rows : List Rw} (h : St w0 S0 w (rowF g us (.slice (some ⟨g, 0, none⟩) n c) rows :: F)) (i : Nat) (hi : i < rows.length) {A : Option Addr} {m d : Nat} {k : ByteArray} {vs : List Vn} (hu : us i = .slice A m d) (hk : rows[i].key = k) (hv : rows[i].vs = vs) :
    w.cell? ⟨g, i * 2, none⟩ = some (.string k) ∧ w.cell? ⟨g, i * 2 + 1, none⟩ = some (.slice A m d) ∧ kVn.C w A vs.length vs := by
  obtain ⟨A1, c1, h1, q0, q1, h2, h3⟩ := rowF_at h i hi
  rw [hu] at h1
  obtain ⟨rfl, rfl, rfl⟩ : A = A1 ∧ m = rows[i].vs.length ∧ d = c1 := by simpa using h1
  subst hk hv
  exact ⟨q0, q1, h3⟩
theorem vnC_at {w : World} {A : Option Addr} {n : Nat} {xs : List Vn} (h : Kd.C kVn w A n xs) (i : Nat) (hi : i < xs.length) : ∃ ad, A = some ad ∧ w.cell? (ad.add (i * 3)) = some (.int .i64 xs[i].ts) ∧ w.cell? ⟨(ad.add (i * 3)).block, (ad.add (i * 3)).off + 1, none⟩ = some (.string xs[i].val) ∧
    w.cell? ⟨(ad.add (i * 3)).block, (ad.add (i * 3)).off + 2, none⟩ = some (.bool xs[i].dead) := by
  obtain ⟨ad, e, hc⟩ := h.2.2 (by have := h.1; omega)
  obtain ⟨c, _, hK, hc0⟩ := hc i xs[i] (List.getElem?_eq_getElem hi)
  have hc : ∀ j u, c[j]? = some u → w.cell? (ad.add (i * 3 + j)) = some u := hc0
  obtain rfl := kVn_open hK
  exact ⟨ad, e, hc 0 _ rfl, by rw [← add_field _ _ 1 (by omega)]; exact hc 1 _ rfl, by rw [← add_field _ _ 2 (by omega)]; exact hc 2 _ rfl⟩
theorem span_take (rows : List Rw) (a b : ByteArray) (ts : Int) (i : Nat) (hi : i < rows.length) : span (rows.take (i + 1)) a b ts = span (rows.take i) a b ts ++ (if inside rows[i].key a b = true then (hitOf rows[i] ts).toList else []) := by
  rw [List.take_succ_eq_append_getElem hi]
  unfold span
  rw [List.filter_append, List.filterMap_append]
  congr 1
  by_cases h : inside rows[i].key a b = true
  · rw [if_pos h, List.filter_cons_of_pos (by simpa using h), List.filter_nil, List.filterMap_cons, List.filterMap_nil]
    cases hitOf rows[i] ts <;> rfl
  · rw [if_neg h, List.filter_cons_of_neg (by simpa using h)]
    rfl
/-- The last version in time among the first k. -/
def Best (vs : List Vn) (ts : Int) (k : Nat) (b : Int) : Prop := (b = -1 ∧ ∀ j (h : j < vs.length), j < k → ts < vs[j].ts) ∨ ∃ m : Nat, ∃ hm : m < vs.length, m < k ∧ b = (m : Int) ∧ vs[m].ts ≤ ts ∧ ∀ j (h : j < vs.length), m < j → j < k → ts < vs[j].ts
theorem best_end (vs : List Vn) (ts : Int) (b : Int) (h : Best vs ts vs.length b) : (b = -1 ∧ upTo vs ts = none) ∨ ∃ m : Nat, ∃ hm : m < vs.length, b = (m : Int) ∧ upTo vs ts = some vs[m] := by
  rcases h with ⟨h1, h2⟩ | ⟨m, hm, h1, h2, h3, h4⟩
  · exact .inl ⟨h1, upTo_none vs ts (fun j hj => h2 j hj hj)⟩
  · exact .inr ⟨m, hm, h2, upTo_some vs ts m hm h3 (fun j hj hmj => h4 j hj hmj hj)⟩
theorem best_yes (vs : List Vn) (ts : Int) (k : Nat) (hk : k < vs.length) (h : vs[k].ts ≤ ts) : Best vs ts (k + 1) (k : Int) := .inr ⟨k, hk, by omega, rfl, h, fun j hj h1 h2 => by omega⟩
theorem best_no (vs : List Vn) (ts : Int) (k : Nat) (b : Int) (hk : k < vs.length) (hb : Best vs ts k b) (h : ts < vs[k].ts) : Best vs ts (k + 1) b := by
  rcases hb with ⟨h1, h2⟩ | ⟨m, hm, h1, h2, h3, h4⟩
  · refine .inl ⟨h1, fun j hj hjk => ?_⟩
    by_cases e : j = k
    · subst e; exact h
    · exact h2 j hj (by omega)
  · refine .inr ⟨m, hm, by omega, h2, h3, fun j hj hmj hjk => ?_⟩
    by_cases e : j = k
    · subst e; exact h
    · exact h4 j hj hmj (by omega)
end Go.Proofs.Ytepenfgeeggjmaa.Ver
