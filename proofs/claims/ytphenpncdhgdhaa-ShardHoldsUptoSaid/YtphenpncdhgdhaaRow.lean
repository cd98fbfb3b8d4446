/- From the data that a call is handed to the rows, texts and numbers that a walk reads. Plain lemmas on the form of claims; nothing of this program. -/
import Derived.Test.YtphenpncdhgdhaaSl
import Derived.Deep.Slices
import Derived.SizedLaws
import Derived.OpenShut
import Derived.ChangeOld
namespace Go.Proofs.Ytphenpncdhgdhaa.Row
open Go.RowKit Go.Proofs.YtphenpncdhgdhaaW.PrintWords
set_option linter.unusedVariables false
set_option linter.unusedSimpArgs false
variable {P : Program} {α β : Type}
/-- Cells that read as data of type t are those of some x of kind k, with the bounds B. -/
def Opens (P : Program) (t : TypeId) (k : Kd α) (B : α → Prop) : Prop :=
  ∀ {H : Type} (enc : TypeId × Value → H) (W : World) (fuel : Nat) (cs : List Value) (d : DataW H) (ps : List MemPlace),
    DataW.trod enc P W 0 (fun _ => true) true fuel t cs = some (d, ps) → (∀ n ∈ d.weights P t, n ≤ reachBytes) → ∃ x, k.K W x cs ∧ B x
theorem opens_int {t : TypeId} {k : IntKind} (ht : P.underlying t = some (.int k)) : Opens P t (Kd.int k) (fun n => (Lit.int k n).wf = true) := by
  intro H enc W fuel cs d ps h hw
  obtain ⟨n, rfl, e, hn⟩ := DataW.trod_int ht h
  exact ⟨n, rfl, hn⟩
theorem opens_bool {t : TypeId} (ht : P.underlying t = some .bool) : Opens P t Kd.bool (fun _ => True) := by
  intro H enc W fuel cs d ps h hw
  obtain ⟨n, rfl, e⟩ := DataW.trod_bool ht h
  exact ⟨n, rfl, trivial⟩
theorem opens_string {t : TypeId} (ht : P.underlying t = some .string) : Opens P t Kd.string (fun s => s.size ≤ 140737488351232) := by
  intro H enc W fuel cs d ps h hw
  obtain ⟨s, rfl, e, hs⟩ := DataW.trod_string ht h
  simp only [Prod.mk.injEq] at e
  obtain ⟨rfl, _⟩ := e
  refine ⟨s, rfl, ?_⟩
  have := hw s.data.toList.length (by simp [DataW.weights])
  simpa [reachBytes] using this
theorem list_of {n : Nat} {p : Nat → α → Prop} (h : ∀ i, i < n → ∃ x, p i x) : ∃ xs : List α, xs.length = n ∧ ∀ j x, xs[j]? = some x → p j x := by
  induction n with
  | zero => exact ⟨[], rfl, fun j x hj => by simp at hj⟩
  | succ n ih =>
    obtain ⟨xs, hl, hx⟩ := ih (fun i hi => h i (Nat.lt_succ_of_lt hi))
    obtain ⟨y, hy⟩ := h n (Nat.lt_succ_self n)
    refine ⟨xs ++ [y], by simp [hl], fun j x hj => ?_⟩
    rcases Nat.lt_or_ge j xs.length with h1 | h1
    · rw [List.getElem?_append_left h1] at hj
      exact hx j x hj
    · have h2 : j = n := by
        have := (List.getElem?_eq_some_iff.1 hj).1
        simp at this
        omega
      subst h2
      rw [← hl, List.getElem?_append_right (Nat.le_refl _)] at hj
      simp at hj
      subst hj
      exact hy
theorem mapM_range {n : Nat} {f : Nat → Option Value} {cs : List Value} (h : (List.range n).mapM f = some cs) : cs.length = n ∧ ∀ i u, cs[i]? = some u → f i = some u := by
  induction n generalizing cs with
  | zero => simp at h; subst h; simp
  | succ n ih =>
    rw [List.range_succ, List.mapM_append] at h
    simp only [bind, Option.bind_eq_some_iff, List.mapM_cons, List.mapM_nil, pure] at h
    obtain ⟨xs, h1, ys, ⟨y, h2, zs, h3, h4⟩, h5⟩ := h
    simp only [Option.some.injEq] at h3 h4 h5
    subst h3; subst h4; subst h5
    obtain ⟨hl, hx⟩ := ih h1
    refine ⟨by simp [hl], fun i u hi => ?_⟩
    rcases Nat.lt_or_ge i xs.length with h6 | h6
    · rw [List.getElem?_append_left h6] at hi
      exact hx i u hi
    · have h7 : i = n := by
        have := (List.getElem?_eq_some_iff.1 hi).1
        simp at this
        omega
      subst h7
      rw [← hl, List.getElem?_append_right (Nat.le_refl _)] at hi
      simp at hi
      subst hi
      rw [← hl] at h2
      rw [← hl]
      exact h2
theorem weights_mem {H : Type} {e : TypeId} {ds : List (DataW H)} {d : DataW H} (hd : d ∈ ds) {n : Nat} (hn : n ∈ d.weights P e) : n ∈ DataW.weightsAll P e ds := by
  induction ds with
  | nil => cases hd
  | cons a l ih =>
    simp only [DataW.weightsAll, List.mem_append]
    rcases List.mem_cons.1 hd with rfl | h
    · exact .inl hn
    · exact .inr (ih h)
theorem opens_slice {t e : TypeId} {k : Kd α} {B : α → Prop} (ht : P.underlying t = some (.slice e)) (hc : P.cellsOf e = k.sz) (he : Opens P e k B) :
    Opens P t (Kd.slice e k) (fun xs => xs.length * P.bytesOf e ≤ 140737488351232 ∧ ∀ x ∈ xs, B x) := by
  intro H enc W fuel cs d ps h hw
  rcases Deep.open_slice ht h with ⟨rfl, e0⟩ | ⟨a, len, cap, m, n, D, Pl, rfl, _, hl, hm, hmm, e0, hx⟩
  · exact ⟨[], ⟨none, 0, rfl, Nat.le_refl _, Kd.C_nil k W⟩, by simp, by simp⟩
  · simp only [if_true] at hmm
    subst hmm
    simp only [Prod.mk.injEq] at e0
    obtain ⟨rfl, _⟩ := e0
    have hw' : ∀ i, i < len → ∀ n ∈ (D i).weights P e, n ≤ reachBytes := fun i hi n hn => hw n (by
      simp only [DataW.weights, ht, List.mem_cons, List.mem_append]
      exact .inr (.inl (weights_mem (List.mem_map.2 ⟨i, List.mem_range.2 hi, rfl⟩) hn)))
    obtain ⟨xs, hxl, hxs⟩ := list_of (n := len) (p := fun i x => ∃ c, c.length = k.sz ∧ (k.K W x c ∧ B x) ∧ ∀ j u, c[j]? = some u → W.cell? (a.add (i * k.sz + j)) = some u) (fun i hi => by
      obtain ⟨cs', h1, h2⟩ := hx i (by omega)
      obtain ⟨x, hK, hB⟩ := he enc W n cs' (D i) (Pl i) h2 (hw' i hi)
      unfold World.cells? at h1
      rw [if_pos (Nat.zero_le _), hc] at h1
      obtain ⟨q1, q2⟩ := mapM_range h1
      refine ⟨x, cs', q1, ⟨hK, hB⟩, fun j u hj => ?_⟩
      rw [← Deep.add_add]
      exact q2 j u hj)
    have hcw := hw ((((List.range len).map D).length + ((List.range (m - len)).map fun j => D (len + j)).length) * P.bytesOf e) (by simp only [DataW.weights, ht]; exact List.mem_cons_self)
    simp only [List.length_map, List.length_range, reachBytes] at hcw
    refine ⟨xs, ⟨some a, m, by rw [hxl], by omega, rfl, by rw [hxl]; unfold maxLen at hm; omega, fun _ => ⟨a, rfl, fun j p hj => ?_⟩⟩, ?_, fun x hxm => ?_⟩
    · obtain ⟨c, c1, c2, c3⟩ := hxs j p hj
      exact ⟨c, c1, c2.1, c3⟩
    · rw [hxl]
      exact Nat.le_trans (Nat.mul_le_mul_right _ (by omega)) hcw
    · obtain ⟨j, hj⟩ := List.mem_iff_getElem?.1 hxm
      obtain ⟨c, _, c2, _⟩ := hxs j x hj
      exact c2.2
/-- A struct's fields, from the place off on. -/
def FieldsOpen (P : Program) (fs : List Field) (off : Nat) (k : Kd α) (B : α → Prop) : Prop :=
  ∀ {H : Type} (enc : TypeId × Value → H) (W : World) (n : Nat) (cs : List Value) (ds : List (DataW H)),
    (∀ (i : Nat) (f : Field), fs[i]? = some f → ∃ d p, DataW.trod enc P W 0 (fun _ => true) true n f.type ((cs.drop f.offset).take (P.cellsOf f.type)) = some (d, p) ∧ ds[i]? = some d) →
    (∀ m ∈ DataW.weightsEach P (fs.map (fun f : Field => f.type)) ds, m ≤ reachBytes) → cs.length = off + k.sz → ∃ x, k.K W x (cs.drop off) ∧ B x
theorem fields_one {f : Field} {off : Nat} {k : Kd α} {B : α → Prop} (ho : f.offset = off) (hc : P.cellsOf f.type = k.sz) (hf : Opens P f.type k B) : FieldsOpen P [f] off k B := by
  intro H enc W n cs ds h hw hl
  obtain ⟨d, p, h1, h2⟩ := h 0 f rfl
  rw [ho, hc, List.take_of_length_le (by rw [List.length_drop]; omega)] at h1
  refine hf enc W n _ d p h1 (fun m hm => hw m ?_)
  cases ds with
  | nil => simp at h2
  | cons d0 ds =>
    simp at h2
    subst h2
    simp only [List.map_cons, DataW.weightsEach, List.mem_append]
    exact .inl hm
theorem fields_cons {f : Field} {fs : List Field} {off : Nat} {k : Kd α} {B : α → Prop} {k' : Kd β} {B' : β → Prop} (ho : f.offset = off) (hc : P.cellsOf f.type = k.sz) (hf : Opens P f.type k B) (hr : FieldsOpen P fs (off + k.sz) k' B') :
    FieldsOpen P (f :: fs) off (Kd.pair k k') (fun x => B x.1 ∧ B' x.2) := by
  intro H enc W n cs ds h hw hl
  have hl' : cs.length = off + (k.sz + k'.sz) := hl
  cases ds with
  | nil =>
    obtain ⟨d, p, h1, h2⟩ := h 0 f rfl
    simp at h2
  | cons d0 ds =>
    obtain ⟨d, p, h1, h2⟩ := h 0 f rfl
    simp at h2
    subst h2
    rw [ho, hc] at h1
    obtain ⟨x, hK, hB⟩ := hf enc W n _ d0 p h1 (fun m hm => hw m (by
      simp only [List.map_cons, DataW.weightsEach, List.mem_append]
      exact .inl hm))
    obtain ⟨y, hK', hB'⟩ := hr enc W n cs ds (fun i g hi => h (i + 1) g hi) (fun m hm => hw m (by
      simp only [List.map_cons, DataW.weightsEach, List.mem_append]
      exact .inr hm)) (by omega)
    refine ⟨(x, y), ⟨_, _, ?_, hK, hK'⟩, hB, hB'⟩
    rw [← List.drop_drop, List.take_append_drop]
theorem opens_struct {t : TypeId} {fs : Array Field} {k : Kd α} {B : α → Prop} (ht : P.underlying t = some (.struct fs)) (hc : P.cellsOf t = k.sz) (hf : FieldsOpen P fs.toList 0 k B) : Opens P t k B := by
  intro H enc W fuel cs d ps h hw
  obtain ⟨xs, n, rfl, e, hl, hxl, hx⟩ := DataW.trod_struct ht h
  simp only [Prod.mk.injEq] at e
  obtain ⟨rfl, _⟩ := e
  have := hf enc W n cs (xs.map (·.1)) (fun i f hi => by
    have h1 : fs[i]? = some f := by simpa using hi
    have h2 := hx i f h1
    have h3 : i < xs.length := by
      rw [hxl]
      exact (Array.getElem?_eq_some_iff.1 h1).1
    rw [List.getElem?_eq_getElem h3] at h2
    exact ⟨_, _, h2, by rw [List.getElem?_map, List.getElem?_eq_getElem h3]; rfl⟩) (fun m hm => hw m (by
      simp only [DataW.weights, ht]
      exact hm)) (by rw [hl, hc]; omega)
  simpa using this
theorem opens_iso {t : TypeId} {k : Kd α} {B : α → Prop} {f : β → α} (g : α → β) (hg : ∀ x, f (g x) = x) (h : Opens P t k B) : Opens P t (Kd.iso k f) (fun x => B (f x)) := by
  intro H enc W fuel cs d ps hd hw
  obtain ⟨x, hK, hB⟩ := h enc W fuel cs d ps hd hw
  exact ⟨g x, by show k.K W (f (g x)) cs; rw [hg]; exact hK, by show B (f (g x)); rw [hg]; exact hB⟩
/-- A parameter, opened. -/
theorem open_arg {H : Type} {enc : TypeId × Value → H} {W : World} {t : TypeId} {k : Kd α} {B : α → Prop} {ts : List TypeId} {ds : List (DataW H)} {v : Value} {d : DataW H} {ps : List MemPlace}
    (ho : Opens P t k B) (hsz : (DataW.weightsEach P ts ds).all (· ≤ reachBytes) = true) (j : Nat) (ht : ts[j]? = some t) (hd : ds[j]? = some d)
    (h : DataW.Trod enc P W 0 (fun _ => true) true t v d ps) : ∃ x, k.K W x v.cells.toList ∧ B x := by
  obtain ⟨fuel, hf⟩ := h
  refine ho enc W fuel _ d ps hf (fun n hn => ?_)
  have := List.all_eq_true.1 hsz n (DataW.weights_mem_each ht hd n hn)
  simpa using this
end Go.Proofs.Ytphenpncdhgdhaa.Row
