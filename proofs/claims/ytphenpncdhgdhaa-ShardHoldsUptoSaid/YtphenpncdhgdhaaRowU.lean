/- From the data that a call is handed to what a walk reads, with the data's bulk. Plain lemmas on the form of claims; nothing of this program. -/
import Derived.Test.YtphenpncdhgdhaaRow
import Derived.Test.YtphenpncdhgdhaaRows
namespace Go.Proofs.Ytphenpncdhgdhaa.Row
open Go.RowKit Go.Proofs.YtphenpncdhgdhaaW.PrintWords
set_option linter.unusedVariables false
set_option linter.unusedSimpArgs false
variable {P : Program} {α β : Type}
/-- Cells that read as data of type t are those of some x of kind k, with the bounds B, and of at most the data's bulk. -/
def OpensU (P : Program) (t : TypeId) (k : Kd α) (μ : α → Nat) (B : α → Prop) : Prop :=
  ∀ {H : Type} (enc : TypeId × Value → H) (W : World) (fuel : Nat) (cs : List Value) (d : DataW H) (ps : List MemPlace),
    DataW.trod enc P W 0 (fun _ => true) true fuel t cs = some (d, ps) → (∀ n ∈ d.weights P t, n ≤ reachBytes) → ∃ x, k.K W x cs ∧ B x ∧ μ x ≤ Rows.uptoBulk d
theorem bulk_one {H : Type} (d : DataW H) : 1 ≤ Rows.uptoBulk d := by
  cases d with
  | lit l => cases l <;> simp [Rows.uptoBulk]
  | nil => simp [Rows.uptoBulk]
  | ptr d => simp [Rows.uptoBulk]
  | slice elems spare => simp [Rows.uptoBulk]
  | agg parts => simp [Rows.uptoBulk]
  | iface t d => simp [Rows.uptoBulk]
  | map entries => simp [Rows.uptoBulk]
  | held h => simp [Rows.uptoBulk]
theorem opensU_one {t : TypeId} {k : Kd α} {B : α → Prop} (h : Opens P t k B) : OpensU P t k (fun _ => 1) B := by
  intro H enc W fuel cs d ps hd hw
  obtain ⟨x, h1, h2⟩ := h enc W fuel cs d ps hd hw
  exact ⟨x, h1, h2, bulk_one d⟩
theorem opensU_string {t : TypeId} (ht : P.underlying t = some .string) : OpensU P t Kd.string (fun _ => 1) (fun s => s.size ≤ 140737488351232) := opensU_one (opens_string ht)
theorem opensU_int {t : TypeId} {k : IntKind} (ht : P.underlying t = some (.int k)) : OpensU P t (Kd.int k) (fun _ => 1) (fun _ => True) := by
  intro H enc W fuel cs d ps hd hw
  obtain ⟨x, h1, h2⟩ := opens_int ht enc W fuel cs d ps hd hw
  exact ⟨x, h1, trivial, bulk_one d⟩
theorem opensU_bool {t : TypeId} (ht : P.underlying t = some .bool) : OpensU P t Kd.bool (fun _ => 1) (fun _ => True) := opensU_one (opens_bool ht)
theorem opensU_slice {t e : TypeId} {k : Kd α} {μ : α → Nat} {B : α → Prop} (ht : P.underlying t = some (.slice e)) (hc : P.cellsOf e = k.sz) (he : OpensU P e k μ B) :
    OpensU P t (Kd.slice e k) (fun xs => (xs.map μ).sum + 1) (fun xs => xs.length * P.bytesOf e ≤ 140737488351232 ∧ ∀ x ∈ xs, B x) := by
  intro H enc W fuel cs d ps h hw
  rcases Deep.open_slice ht h with ⟨rfl, e0⟩ | ⟨a, len, cap, m, n, D, Pl, rfl, _, hl, hm, hmm, e0, hx⟩
  · exact ⟨[], ⟨none, 0, rfl, Nat.le_refl _, Kd.C_nil k W⟩, by simp, by simpa using bulk_one d⟩
  · simp only [if_true] at hmm
    subst hmm
    simp only [Prod.mk.injEq] at e0
    obtain ⟨rfl, _⟩ := e0
    have hw' : ∀ i, i < len → ∀ n ∈ (D i).weights P e, n ≤ reachBytes := fun i hi n hn => hw n (by
      simp only [DataW.weights, ht, List.mem_cons, List.mem_append]
      exact .inr (.inl (weights_mem (List.mem_map.2 ⟨i, List.mem_range.2 hi, rfl⟩) hn)))
    obtain ⟨xs, hxl, hxs⟩ := list_of (n := len) (p := fun i x => ∃ c, c.length = k.sz ∧ (k.K W x c ∧ B x ∧ μ x ≤ Rows.uptoBulk (D i)) ∧ ∀ j u, c[j]? = some u → W.cell? (a.add (i * k.sz + j)) = some u) (fun i hi => by
      obtain ⟨cs', h1, h2⟩ := hx i (by omega)
      obtain ⟨x, hK, hB, hU⟩ := he enc W n cs' (D i) (Pl i) h2 (hw' i hi)
      unfold World.cells? at h1
      rw [if_pos (Nat.zero_le _), hc] at h1
      obtain ⟨q1, q2⟩ := mapM_range h1
      refine ⟨x, cs', q1, ⟨hK, hB, hU⟩, fun j u hj => ?_⟩
      rw [← Deep.add_add]
      exact q2 j u hj)
    have hcw := hw ((((List.range len).map D).length + ((List.range (m - len)).map fun j => D (len + j)).length) * P.bytesOf e) (by simp only [DataW.weights, ht]; exact List.mem_cons_self)
    simp only [List.length_map, List.length_range, reachBytes] at hcw
    refine ⟨xs, ⟨some a, m, by rw [hxl], by omega, rfl, by rw [hxl]; unfold maxLen at hm; omega, fun _ => ⟨a, rfl, fun j p hj => ?_⟩⟩, ⟨?_, fun x hxm => ?_⟩, ?_⟩
    · obtain ⟨c, c1, c2, c3⟩ := hxs j p hj
      exact ⟨c, c1, c2.1, c3⟩
    · rw [hxl]
      exact Nat.le_trans (Nat.mul_le_mul_right _ (by omega)) hcw
    · obtain ⟨j, hj⟩ := List.mem_iff_getElem?.1 hxm
      obtain ⟨c, _, c2, _⟩ := hxs j x hj
      exact c2.2.1
    · have key : ∀ (ys : List α) (s : Nat), (∀ j y, ys[j]? = some y → μ y ≤ Rows.uptoBulk (D (s + j))) → (ys.map μ).sum ≤ Rows.uptoBulkAll ((List.range' s ys.length).map D) := by
        intro ys
        induction ys with
        | nil => intro s _; simp [Rows.uptoBulkAll]
        | cons y ys ih =>
          intro s hy
          have h1 := hy 0 y rfl
          have h2 := ih (s + 1) (fun j z hz => by have := hy (j + 1) z (by simpa using hz); rw [show s + 1 + j = s + (j + 1) by omega]; exact this)
          simp only [List.map_cons, List.sum_cons, List.length_cons, List.range'_succ, Rows.uptoBulkAll]
          simp only [Nat.add_zero] at h1
          omega
      have := key xs 0 (fun j y hj => by
        obtain ⟨c, _, c2, _⟩ := hxs j y hj
        rw [Nat.zero_add]
        exact c2.2.2)
      rw [hxl, ← List.range_eq_range'] at this
      simp only [Rows.uptoBulk]
      omega
def FieldsOpenU (P : Program) (fs : List Field) (off : Nat) (k : Kd α) (μ : α → Nat) (B : α → Prop) : Prop :=
  ∀ {H : Type} (enc : TypeId × Value → H) (W : World) (n : Nat) (cs : List Value) (ds : List (DataW H)),
    (∀ (i : Nat) (f : Field), fs[i]? = some f → ∃ d p, DataW.trod enc P W 0 (fun _ => true) true n f.type ((cs.drop f.offset).take (P.cellsOf f.type)) = some (d, p) ∧ ds[i]? = some d) →
    (∀ m ∈ DataW.weightsEach P (fs.map (fun f : Field => f.type)) ds, m ≤ reachBytes) → cs.length = off + k.sz → ∃ x, k.K W x (cs.drop off) ∧ B x ∧ μ x ≤ Rows.uptoBulkAll ds
theorem fieldsU_one {f : Field} {off : Nat} {k : Kd α} {μ : α → Nat} {B : α → Prop} (ho : f.offset = off) (hc : P.cellsOf f.type = k.sz) (hf : OpensU P f.type k μ B) : FieldsOpenU P [f] off k μ B := by
  intro H enc W n cs ds h hw hl
  obtain ⟨d, p, h1, h2⟩ := h 0 f rfl
  rw [ho, hc, List.take_of_length_le (by rw [List.length_drop]; omega)] at h1
  cases ds with
  | nil => simp at h2
  | cons d0 ds =>
    simp at h2
    subst h2
    obtain ⟨x, a, b, c⟩ := hf enc W n _ d0 p h1 (fun m hm => hw m (by
      simp only [List.map_cons, DataW.weightsEach, List.mem_append]
      exact .inl hm))
    exact ⟨x, a, b, by simp only [Rows.uptoBulkAll]; omega⟩
theorem fieldsU_cons {f : Field} {fs : List Field} {off : Nat} {k : Kd α} {μ : α → Nat} {B : α → Prop} {k' : Kd β} {μ' : β → Nat} {B' : β → Prop} (ho : f.offset = off) (hc : P.cellsOf f.type = k.sz) (hf : OpensU P f.type k μ B) (hr : FieldsOpenU P fs (off + k.sz) k' μ' B') :
    FieldsOpenU P (f :: fs) off (Kd.pair k k') (fun x => μ x.1 + μ' x.2) (fun x => B x.1 ∧ B' x.2) := by
  intro H enc W n cs ds h hw hl
  have hl' : cs.length = off + (k.sz + k'.sz) := hl
  cases ds with
  | nil =>
    obtain ⟨d, p, h1, h2⟩ := h 0 f rfl
    simp at h2
  | cons d0 ds =>
    obtain ⟨d, p, h1, h2⟩ := h 0 f rfl
    simp at h2
    subst h2
    rw [ho, hc] at h1
    obtain ⟨x, hK, hB, hU⟩ := hf enc W n _ d0 p h1 (fun m hm => hw m (by
      simp only [List.map_cons, DataW.weightsEach, List.mem_append]
      exact .inl hm))
    obtain ⟨y, hK', hB', hU'⟩ := hr enc W n cs ds (fun i g hi => h (i + 1) g hi) (fun m hm => hw m (by
      simp only [List.map_cons, DataW.weightsEach, List.mem_append]
      exact .inr hm)) (by omega)
    refine ⟨(x, y), ⟨_, _, ?_, hK, hK'⟩, ⟨hB, hB'⟩, by simp only [Rows.uptoBulkAll]; omega⟩
    rw [← List.drop_drop, List.take_append_drop]
theorem opensU_struct {t : TypeId} {fs : Array Field} {k : Kd α} {μ : α → Nat} {B : α → Prop} (ht : P.underlying t = some (.struct fs)) (hc : P.cellsOf t = k.sz) (hf : FieldsOpenU P fs.toList 0 k μ B) : OpensU P t k (fun x => μ x + 1) B := by
  intro H enc W fuel cs d ps h hw
  obtain ⟨xs, n, rfl, e, hl, hxl, hx⟩ := DataW.trod_struct ht h
  simp only [Prod.mk.injEq] at e
  obtain ⟨rfl, _⟩ := e
  have := hf enc W n cs (xs.map (·.1)) (fun i f hi => by
    have h1 : fs[i]? = some f := by simpa using hi
    have h2 := hx i f h1
    have h3 : i < xs.length := by
      rw [hxl]
      exact (Array.getElem?_eq_some_iff.1 h1).1
    rw [List.getElem?_eq_getElem h3] at h2
    exact ⟨_, _, h2, by rw [List.getElem?_map, List.getElem?_eq_getElem h3]; rfl⟩) (fun m hm => hw m (by
      simp only [DataW.weights, ht]
      exact hm)) (by rw [hl, hc]; omega)
  obtain ⟨x, a, b, c⟩ := this
  exact ⟨x, by simpa using a, b, by simp only [Rows.uptoBulk]; omega⟩
theorem opensU_iso {t : TypeId} {k : Kd α} {μ : α → Nat} {B : α → Prop} {f : β → α} (g : α → β) (hg : ∀ x, f (g x) = x) (h : OpensU P t k μ B) : OpensU P t (Kd.iso k f) (fun x => μ (f x)) (fun x => B (f x)) := by
  intro H enc W fuel cs d ps hd hw
  obtain ⟨x, hK, hB, hU⟩ := h enc W fuel cs d ps hd hw
  exact ⟨g x, by show k.K W (f (g x)) cs; rw [hg]; exact hK, by show B (f (g x)); rw [hg]; exact hB, by show μ (f (g x)) ≤ _; rw [hg]; exact hU⟩
theorem openU_arg {H : Type} {enc : TypeId × Value → H} {W : World} {t : TypeId} {k : Kd α} {μ : α → Nat} {B : α → Prop} {ts : List TypeId} {ds : List (DataW H)} {v : Value} {d : DataW H} {ps : List MemPlace}
    (ho : OpensU P t k μ B) (hsz : (DataW.weightsEach P ts ds).all (· ≤ reachBytes) = true) (j : Nat) (ht : ts[j]? = some t) (hd : ds[j]? = some d)
    (h : DataW.Trod enc P W 0 (fun _ => true) true t v d ps) : ∃ x, k.K W x v.cells.toList ∧ B x ∧ μ x ≤ Rows.uptoBulk d := by
  obtain ⟨fuel, hf⟩ := h
  refine ho enc W fuel _ d ps hf (fun n hn => ?_)
  have := List.all_eq_true.1 hsz n (DataW.weights_mem_each ht hd n hn)
  simpa using this
theorem bulk_mem {H : Type} {d : DataW H} {l : List (DataW H)} (h : d ∈ l) : Rows.uptoBulk d ≤ Rows.uptoBulkAll l := by
  induction l with
  | nil => cases h
  | cons x r ih =>
    simp only [Rows.uptoBulkAll]
    cases List.mem_cons.1 h with
    | inl e => subst e; omega
    | inr e => have := ih e; omega
end Go.Proofs.Ytphenpncdhgdhaa.Row
