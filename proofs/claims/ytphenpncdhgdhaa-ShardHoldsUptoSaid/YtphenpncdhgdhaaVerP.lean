/- A store of versions: the program's rows, the document's list in the order of the puts. Plain Lean, no program. -/
import Derived.Test.YtphenpncdhgdhaaStr
namespace Go.Proofs.Ytphenpncdhgdhaa.Ver
open Go.Proofs.Ytphenpncdhgdhaa.Str
set_option linter.unusedVariables false
set_option linter.unusedSimpArgs false
structure Vn where
  ts : Int
  val : ByteArray
  dead : Bool
structure Rw where
  key : ByteArray
  vs : List Vn
structure Ht where
  key : ByteArray
  ts : Int
  val : ByteArray
/-- How many rows stand ahead of a key. -/
def lb (rows : List Rw) (k : ByteArray) : Nat := (rows.takeWhile (fun r => decide (cmpS r.key k < 0))).length
/-- Where a key stands, or would; is it there? -/
def there (rows : List Rw) (k : ByteArray) : Bool := match rows[lb rows k]? with
  | some r => decide (cmpS r.key k = 0)
  | none => false
def lastTs (l : List Vn) : Int := match l.getLast? with
  | some v => v.ts
  | none => 0
def newest (rows : List Rw) (k : ByteArray) : Int := if there rows k then (match rows[lb rows k]? with | some r => lastTs r.vs | none => 0) else 0
def putRows (rows : List Rw) (k : ByteArray) (v : Vn) : List Rw :=
  if there rows k then rows.modify (lb rows k) (fun r => ⟨r.key, r.vs ++ [v]⟩)
  else rows.take (lb rows k) ++ ⟨k, [v]⟩ :: rows.drop (lb rows k)
def putErr (rows : List Rw) (k : ByteArray) (v : Vn) : Int := if v.ts < 1 then 1 else if v.ts ≤ newest rows k then 120 else 0
def put (rows : List Rw) (k : ByteArray) (v : Vn) : List Rw := if putErr rows k v = 0 then putRows rows k v else rows
/-- The newest version that is no later than a time. -/
def upTo (l : List Vn) (ts : Int) : Option Vn := (l.filter (fun v => decide (v.ts ≤ ts))).getLast?
def hitOf (r : Rw) (ts : Int) : Option Ht := match upTo r.vs ts with
  | some v => if v.dead then none else some ⟨r.key, v.ts, v.val⟩
  | none => none
def inside (k a b : ByteArray) : Bool := decide (cmpS a k ≤ 0) && decide (cmpS k b < 0)
def span (rows : List Rw) (a b : ByteArray) (ts : Int) : List Ht := (rows.filter (fun r => inside r.key a b)).filterMap (fun r => hitOf r ts)
/-- Rows rise. -/
def Rises (rows : List Rw) : Prop := rows.Pairwise (fun r q => cmpS r.key q.key < 0)
/-- No row is empty; all times are at least one. -/
def Full (rows : List Rw) : Prop := ∀ r ∈ rows, r.vs ≠ [] ∧ ∀ v ∈ r.vs, 1 ≤ v.ts
theorem lt_trans {a b c : ByteArray} (h1 : cmpS a b < 0) (h2 : cmpS b c < 0) : cmpS a c < 0 := by
  have := cmpS_trans a b c (by omega) (by omega)
  have := cmpS_range a c
  omega
theorem lt_le_trans {a b c : ByteArray} (h1 : cmpS a b < 0) (h2 : cmpS b c ≤ 0) : cmpS a c < 0 := by
  have := cmpS_trans a b c (by omega) h2
  have := cmpS_range a c
  omega
theorem le_lt_trans {a b c : ByteArray} (h1 : cmpS a b ≤ 0) (h2 : cmpS b c < 0) : cmpS a c < 0 := by
  have := cmpS_trans a b c h1 (by omega)
  have := cmpS_range a c
  omega
theorem cmpS_flip {a b : ByteArray} : (0 < cmpS a b ↔ cmpS b a < 0) ∧ (0 ≤ cmpS a b ↔ cmpS b a ≤ 0) := by
  rw [cmpS_swap a b]
  omega
/-- Rows, cut where a key stands. -/
theorem cut (rows : List Rw) (h : Rises rows) (k : ByteArray) :
    (∀ r ∈ rows.take (lb rows k), cmpS r.key k < 0) ∧ (∀ r ∈ rows.drop (lb rows k), 0 ≤ cmpS r.key k) ∧ lb rows k ≤ rows.length := by
  unfold lb
  induction rows with
  | nil => simp
  | cons r rows ih =>
    have h1 := List.pairwise_cons.1 h
    by_cases hr : cmpS r.key k < 0
    · simp only [List.takeWhile_cons, hr, decide_true, if_true, List.length_cons, List.take_succ_cons, List.drop_succ_cons]
      obtain ⟨i1, i2, i3⟩ := ih h1.2
      refine ⟨?_, i2, by omega⟩
      intro q hq
      rcases List.mem_cons.1 hq with rfl | hq
      · exact hr
      · exact i1 q hq
    · simp only [List.takeWhile_cons, hr, decide_false, Bool.false_eq_true, if_false, List.length_nil, List.take_zero, List.drop_zero]
      refine ⟨by simp, ?_, Nat.zero_le _⟩
      intro q hq
      rcases List.mem_cons.1 hq with rfl | hq
      · omega
      · have := h1.1 q hq
        rcases Int.lt_or_le (cmpS q.key k) 0 with h3 | h3
        · exact absurd (lt_trans this h3) hr
        · exact h3
/-- The three ways in which a key may stand. -/
theorem there_split (rows : List Rw) (h : Rises rows) (k : ByteArray) (ht : there rows k = true) :
    ∃ A B vs, rows = A ++ ⟨k, vs⟩ :: B ∧ A.length = lb rows k ∧ (∀ r ∈ A, cmpS r.key k < 0) ∧ (∀ r ∈ B, cmpS k r.key < 0) := by
  obtain ⟨h1, h2, h3⟩ := cut rows h k
  unfold there at ht
  cases hr : rows[lb rows k]? with
  | none => rw [hr] at ht; cases ht
  | some r =>
    rw [hr] at ht
    simp only [decide_eq_true_eq] at ht
    obtain ⟨hlt, e⟩ := List.getElem?_eq_some_iff.1 hr
    have hk : r.key = k := cmpS_zero _ _ ht
    have hr2 : r = ⟨k, r.vs⟩ := by rw [← hk]
    refine ⟨rows.take (lb rows k), rows.drop (lb rows k + 1), r.vs, ?_, by rw [List.length_take]; omega, h1, ?_⟩
    · conv => lhs; rw [← List.take_append_drop (lb rows k) rows]
      rw [List.drop_eq_getElem_cons hlt, e, ← hr2]
    · have h4 : Rises (rows.drop (lb rows k)) := h.sublist (List.drop_sublist _ _)
      rw [List.drop_eq_getElem_cons hlt, e, hr2] at h4
      exact fun r hr => (List.pairwise_cons.1 h4).1 r hr
theorem there_not (rows : List Rw) (h : Rises rows) (k : ByteArray) (ht : there rows k = false) : ∀ r ∈ rows.drop (lb rows k), cmpS k r.key < 0 := by
  obtain ⟨h1, h2, h3⟩ := cut rows h k
  rcases Nat.lt_or_ge (lb rows k) rows.length with hlt | hge
  · have h4 : Rises (rows.drop (lb rows k)) := h.sublist (List.drop_sublist _ _)
    rw [List.drop_eq_getElem_cons hlt] at h2 h4 ⊢
    have h5 := h2 _ (List.mem_cons_self)
    have h6 : cmpS k (rows[lb rows k]).key < 0 := by
      unfold there at ht
      rw [List.getElem?_eq_getElem hlt] at ht
      simp only [decide_eq_false_iff_not] at ht
      rw [cmpS_swap]
      omega
    intro r hr
    rcases List.mem_cons.1 hr with rfl | hr
    · exact h6
    · exact lt_trans h6 ((List.pairwise_cons.1 h4).1 r hr)
  · rw [List.drop_eq_nil_of_le hge]; simp
theorem there_iff (rows : List Rw) (h : Rises rows) (k : ByteArray) : there rows k = true ↔ ∃ r ∈ rows, r.key = k := by
  constructor
  · intro ht
    obtain ⟨A, B, vs, e, _⟩ := there_split rows h k ht
    exact ⟨⟨k, vs⟩, by rw [e]; simp, rfl⟩
  · rintro ⟨r, hr, rfl⟩
    cases ht : there rows r.key with
    | true => rfl
    | false =>
      obtain ⟨h1, _, _⟩ := cut rows h r.key
      have h2 := there_not rows h r.key ht
      rw [← List.take_append_drop (lb rows r.key) rows] at hr
      rcases List.mem_append.1 hr with hr | hr
      · have := h1 r hr; rw [cmpS_self] at this; omega
      · have := h2 r hr; rw [cmpS_self] at this; omega
theorem putRows_there (rows : List Rw) (k : ByteArray) (v : Vn) {A B : List Rw} {vs : List Vn} (ht : there rows k = true) (e : rows = A ++ ⟨k, vs⟩ :: B) (hl : A.length = lb rows k) : putRows rows k v = A ++ ⟨k, vs ++ [v]⟩ :: B := by
  unfold putRows
  rw [if_pos ht, ← hl, e, List.modify_eq_take_cons_drop (by simp)]
  simp
theorem putRows_new (rows : List Rw) (k : ByteArray) (v : Vn) (ht : there rows k = false) : putRows rows k v = rows.take (lb rows k) ++ ⟨k, [v]⟩ :: rows.drop (lb rows k) := by
  unfold putRows
  rw [if_neg (by simp [ht])]
theorem rises_app {A B : List Rw} : Rises (A ++ B) ↔ Rises A ∧ Rises B ∧ ∀ r ∈ A, ∀ q ∈ B, cmpS r.key q.key < 0 := List.pairwise_append
theorem putRows_rises (rows : List Rw) (h : Rises rows) (k : ByteArray) (v : Vn) : Rises (putRows rows k v) := by
  cases ht : there rows k with
  | true =>
    obtain ⟨A, B, vs, e, hl, h1, h2⟩ := there_split rows h k ht
    rw [putRows_there rows k v ht e hl]
    rw [e] at h
    obtain ⟨a, b, c⟩ := rises_app.1 h
    obtain ⟨b1, b2⟩ := List.pairwise_cons.1 b
    refine rises_app.2 ⟨a, List.pairwise_cons.2 ⟨b1, b2⟩, fun r hr q hq => ?_⟩
    rcases List.mem_cons.1 hq with rfl | hq
    · exact h1 r hr
    · exact c r hr q (by simp [hq])
  | false =>
    obtain ⟨h1, _, _⟩ := cut rows h k
    have h2 := there_not rows h k ht
    rw [putRows_new rows k v ht]
    have h3 : Rises (rows.take (lb rows k) ++ rows.drop (lb rows k)) := by rw [List.take_append_drop]; exact h
    obtain ⟨a, b, c⟩ := rises_app.1 h3
    refine rises_app.2 ⟨a, List.pairwise_cons.2 ⟨h2, b⟩, fun r hr q hq => ?_⟩
    rcases List.mem_cons.1 hq with rfl | hq
    · exact h1 r hr
    · exact c r hr q hq
theorem putRows_full (rows : List Rw) (h : Rises rows) (hf : Full rows) (k : ByteArray) (v : Vn) (hv : 1 ≤ v.ts) : Full (putRows rows k v) := by
  cases ht : there rows k with
  | true =>
    obtain ⟨A, B, vs, e, hl, h1, h2⟩ := there_split rows h k ht
    rw [putRows_there rows k v ht e hl]
    intro r hr
    rw [e] at hf
    rcases List.mem_append.1 hr with hr | hr
    · exact hf r (by simp [hr])
    · rcases List.mem_cons.1 hr with rfl | hr
      · refine ⟨by simp, fun x hx => ?_⟩
        rcases List.mem_append.1 hx with hx | hx
        · exact (hf ⟨k, vs⟩ (by simp)).2 x hx
        · rw [List.mem_singleton.1 hx]; exact hv
      · exact hf r (by simp [hr])
  | false =>
    rw [putRows_new rows k v ht]
    intro r hr
    rcases List.mem_append.1 hr with hr | hr
    · exact hf r (List.mem_of_mem_take hr)
    · rcases List.mem_cons.1 hr with rfl | hr
      · exact ⟨by simp, fun x hx => by rw [List.mem_singleton.1 hx]; exact hv⟩
      · exact hf r (List.mem_of_mem_drop hr)
theorem put_rises (rows : List Rw) (h : Rises rows) (k : ByteArray) (v : Vn) : Rises (put rows k v) := by
  unfold put
  split
  · exact putRows_rises rows h k v
  · exact h
theorem put_full (rows : List Rw) (h : Rises rows) (hf : Full rows) (k : ByteArray) (v : Vn) : Full (put rows k v) := by
  unfold put
  by_cases h0 : putErr rows k v = 0
  · rw [if_pos h0]
    refine putRows_full rows h hf k v ?_
    unfold putErr at h0
    by_cases h1 : v.ts < 1
    · rw [if_pos h1] at h0; omega
    · omega
  · rw [if_neg h0]; exact hf
/-- A later version changes nothing of what is told of a time. -/
theorem upTo_later (l : List Vn) (v : Vn) (ts : Int) (h : ts < v.ts) : upTo (l ++ [v]) ts = upTo l ts := by
  unfold upTo
  rw [List.filter_append, List.filter_cons, if_neg (by simp; omega)]
  simp
theorem span_later (rows : List Rw) (h : Rises rows) (k : ByteArray) (v : Vn) (a b : ByteArray) (ts : Int) (hv : ts < v.ts) : span (put rows k v) a b ts = span rows a b ts := by
  unfold put
  by_cases h0 : putErr rows k v = 0
  · rw [if_pos h0]
    cases ht : there rows k with
    | true =>
      obtain ⟨A, B, vs, e, hl, h1, h2⟩ := there_split rows h k ht
      rw [putRows_there rows k v ht e hl]
      conv => rhs; rw [e]
      have hh : hitOf ⟨k, vs ++ [v]⟩ ts = hitOf ⟨k, vs⟩ ts := by
        unfold hitOf
        rw [upTo_later _ _ _ hv]
      unfold span
      simp only [List.filter_append, List.filter_cons, List.filterMap_append]
      by_cases hi : inside k a b = true
      · simp only [hi, if_true, List.filterMap_cons, hh]
      · simp only [hi, if_false, Bool.false_eq_true]
    | false =>
      rw [putRows_new rows k v ht]
      conv => rhs; rw [← List.take_append_drop (lb rows k) rows]
      have hh : hitOf ⟨k, [v]⟩ ts = none := by
        have h1 := upTo_later [] v ts hv
        rw [List.nil_append] at h1
        unfold hitOf
        simp only [h1]
        simp [upTo]
      unfold span
      simp only [List.filter_append, List.filter_cons, List.filterMap_append]
      by_cases hi : inside k a b = true
      · simp only [hi, if_true, List.filterMap_cons, hh]
      · simp only [hi, if_false, Bool.false_eq_true]
  · rw [if_neg h0]
/-- Two spans that meet. -/
theorem span_meet (rows : List Rw) (h : Rises rows) (a b c : ByteArray) (ts : Int) (hab : cmpS a b ≤ 0) (hbc : cmpS b c ≤ 0) : span rows a b ts ++ span rows b c ts = span rows a c ts := by
  unfold span
  rw [← List.filterMap_append]
  congr 1
  induction rows with
  | nil => rfl
  | cons r rows ih =>
    have h1 := List.pairwise_cons.1 h
    have ih := ih h1.2
    by_cases x1 : cmpS r.key b < 0
    · have e2 : inside r.key b c = false := by
        unfold inside
        have : ¬ cmpS b r.key ≤ 0 := by rw [cmpS_swap]; omega
        simp [this]
      have x2 : cmpS r.key c < 0 := lt_le_trans x1 hbc
      have e1 : inside r.key a c = inside r.key a b := by
        unfold inside
        simp [x1, x2]
      rw [List.filter_cons, List.filter_cons, List.filter_cons, e1, e2]
      by_cases hi : inside r.key a b = true
      · simp [hi, ih]
      · simp [hi, ih]
    · have x3 : cmpS b r.key ≤ 0 := by rw [cmpS_swap]; omega
      have hall : ∀ q ∈ r :: rows, inside q.key a b = false := by
        intro q hq
        have : cmpS b q.key ≤ 0 := by
          rcases List.mem_cons.1 hq with rfl | hq
          · exact x3
          · have := le_lt_trans x3 (h1.1 q hq); omega
        have : ¬ cmpS q.key b < 0 := by rw [cmpS_swap]; omega
        unfold inside
        simp [this]
      have hsame : ∀ q ∈ r :: rows, inside q.key b c = inside q.key a c := by
        intro q hq
        have h5 : cmpS b q.key ≤ 0 := by
          rcases List.mem_cons.1 hq with rfl | hq
          · exact x3
          · have := le_lt_trans x3 (h1.1 q hq); omega
        have := (cmpS_trans a b q.key hab h5).1
        unfold inside
        simp [h5, this]
      rw [List.filter_eq_nil_iff.2 (fun q hq => by simp [hall q hq]), List.nil_append]
      exact List.filter_congr hsame
theorem span_in (rows : List Rw) (hf : Full rows) (a b : ByteArray) (ts : Int) : ∀ x ∈ span rows a b ts, x.ts ≤ ts ∧ 1 ≤ x.ts ∧ inside x.key a b = true := by
  intro x hx
  unfold span at hx
  obtain ⟨r, hr, e⟩ := List.mem_filterMap.1 hx
  obtain ⟨hr1, hr2⟩ := List.mem_filter.1 hr
  unfold hitOf at e
  cases hu : upTo r.vs ts with
  | none => rw [hu] at e; cases e
  | some v =>
    rw [hu] at e
    by_cases hd : v.dead = true
    · simp [hd] at e
    · simp only [hd, if_false, Bool.false_eq_true, Option.some.injEq] at e
      subst e
      unfold upTo at hu
      have hm := List.mem_of_getLast? hu
      obtain ⟨m1, m2⟩ := List.mem_filter.1 hm
      exact ⟨by simpa using m2, (hf r hr1).2 v m1, hr2⟩
theorem span_rises (rows : List Rw) (h : Rises rows) (a b : ByteArray) (ts : Int) : (span rows a b ts).Pairwise (fun x y => cmpS x.key y.key < 0) := by
  unfold span
  refine List.Pairwise.filterMap _ (R := fun r q : Rw => cmpS r.key q.key < 0) ?_ (h.sublist List.filter_sublist)
  intro r q hrq x hx y hy
  have hk : ∀ r x, hitOf r ts = some x → x.key = r.key := by
    intro r x hx
    unfold hitOf at hx
    cases hu : upTo r.vs ts with
    | none => rw [hu] at hx; cases hx
    | some v =>
      rw [hu] at hx
      by_cases hd : v.dead = true
      · simp [hd] at hx
      · simp only [hd, if_false, Bool.false_eq_true, Option.some.injEq] at hx
        subst hx
        rfl
  rw [hk r x hx, hk q y hy]
  exact hrq
/-- What the program goes over: the rows from a span's beginning on, as long as they are below its end. -/
theorem span_walk (rows : List Rw) (h : Rises rows) (a b : ByteArray) : rows.filter (fun r => inside r.key a b) = (rows.drop (lb rows a)).takeWhile (fun r => decide (cmpS r.key b < 0)) := by
  obtain ⟨h1, h2, h3⟩ := cut rows h a
  conv => lhs; rw [← List.take_append_drop (lb rows a) rows]
  rw [List.filter_append, List.filter_eq_nil_iff.2 (fun r hr => by
    have := h1 r hr
    have : ¬ cmpS a r.key ≤ 0 := by rw [cmpS_swap]; omega
    simp [inside, this]), List.nil_append]
  have h4 : Rises (rows.drop (lb rows a)) := h.sublist (List.drop_sublist _ _)
  generalize rows.drop (lb rows a) = L at h2 h4 ⊢
  induction L with
  | nil => rfl
  | cons r L ih =>
    have h5 := List.pairwise_cons.1 h4
    have h6 : cmpS a r.key ≤ 0 := by have := h2 r (by simp); rw [cmpS_swap]; omega
    by_cases hb : cmpS r.key b < 0
    · rw [List.filter_cons, List.takeWhile_cons]
      simp only [inside, h6, hb, decide_true, Bool.and_self, if_true]
      rw [← ih (fun q hq => h2 q (by simp [hq])) h5.2]
      rfl
    · rw [List.takeWhile_cons]
      simp only [hb, decide_false, Bool.false_eq_true, if_false]
      refine List.filter_eq_nil_iff.2 (fun q hq => ?_)
      have : ¬ cmpS q.key b < 0 := by
        rcases List.mem_cons.1 hq with rfl | hq
        · exact hb
        · intro hlt
          exact hb (lt_trans (h5.1 q hq) hlt)
      simp [inside, this]
/-! ### the document's list -/
abbrev Log := List (ByteArray × Vn)
def ofKey (log : Log) (k : ByteArray) : List Vn := (log.filter (fun p => decide (cmpS p.1 k = 0))).map (·.2)
def kAt (ks : List ByteArray) (k : ByteArray) : Nat := (ks.takeWhile (fun x => decide (cmpS x k < 0))).length
def kIs (ks : List ByteArray) (k : ByteArray) : Bool := match ks[kAt ks k]? with
  | some x => decide (cmpS x k = 0)
  | none => false
def insKey (ks : List ByteArray) (k : ByteArray) : List ByteArray := if kIs ks k = true then ks else ks.take (kAt ks k) ++ k :: ks.drop (kAt ks k)
def keysL (log : Log) : List ByteArray := log.foldl (fun ks p => insKey ks p.1) []
def rowsL (log : Log) : List Rw := (keysL log).map (fun k => ⟨k, ofKey log k⟩)
def newestL (log : Log) (k : ByteArray) : Int := lastTs (ofKey log k)
def putErrL (log : Log) (k : ByteArray) (v : Vn) : Int := if v.ts < 1 then 1 else if v.ts ≤ newestL log k then 120 else 0
def putL (log : Log) (k : ByteArray) (v : Vn) : Log := if putErrL log k v = 0 then log ++ [(k, v)] else log
theorem keysL_snoc (log : Log) (k : ByteArray) (v : Vn) : keysL (log ++ [(k, v)]) = insKey (keysL log) k := by simp [keysL]
/-- What is kept of a list of puts. -/
structure Good (log : Log) : Prop where
  rises : Rises (rowsL log)
  all : ∀ p ∈ log, p.1 ∈ keysL log
  some_ : ∀ k ∈ keysL log, ∃ p ∈ log, p.1 = k
theorem rowsL_keys (log : Log) : (rowsL log).map (·.key) = keysL log := by simp [rowsL, Function.comp_def]
theorem lb_keys (log : Log) (k : ByteArray) : lb (rowsL log) k = kAt (keysL log) k := by
  unfold lb rowsL kAt
  rw [List.takeWhile_map, List.length_map]
  rfl
theorem there_keys (log : Log) (k : ByteArray) : there (rowsL log) k = kIs (keysL log) k := by
  unfold there kIs
  rw [lb_keys]
  unfold rowsL
  rw [List.getElem?_map]
  cases (keysL log)[kAt (keysL log) k]? <;> rfl
theorem ofKey_other (log : Log) (k k' : ByteArray) (v : Vn) (h : k ≠ k') : ofKey (log ++ [(k, v)]) k' = ofKey log k' := by
  unfold ofKey
  rw [List.filter_append, List.filter_cons, if_neg (by simpa using fun e => h (cmpS_zero _ _ e))]
  simp
theorem ofKey_same (log : Log) (k : ByteArray) (v : Vn) : ofKey (log ++ [(k, v)]) k = ofKey log k ++ [v] := by
  unfold ofKey
  rw [List.filter_append, List.filter_cons, if_pos (by simp [cmpS_self])]
  simp
theorem rows_congr {A : List Rw} {log : Log} {k : ByteArray} {v : Vn} (hA : ∀ r ∈ A, r.key ≠ k) {ks : List ByteArray} (e : A = ks.map (fun k => ⟨k, ofKey log k⟩)) : ks.map (fun k' => (⟨k', ofKey (log ++ [(k, v)]) k'⟩ : Rw)) = A := by
  rw [e]
  refine List.map_congr_left (fun x hx => ?_)
  have : x ≠ k := hA ⟨x, ofKey log x⟩ (by rw [e]; exact List.mem_map.2 ⟨x, hx, rfl⟩)
  rw [ofKey_other log k x v (fun e => this e.symm)]
theorem rowsL_snoc (log : Log) (h : Good log) (k : ByteArray) (v : Vn) : rowsL (log ++ [(k, v)]) = putRows (rowsL log) k v := by
  have hne : ∀ {a : ByteArray}, cmpS a k < 0 → a ≠ k := fun h e => by rw [e, cmpS_self] at h; omega
  have hne' : ∀ {a : ByteArray}, cmpS k a < 0 → a ≠ k := fun h e => by rw [e, cmpS_self] at h; omega
  cases ht : there (rowsL log) k with
  | true =>
    obtain ⟨A, B, vs, e, hl, h1, h2⟩ := there_split _ h.rises k ht
    rw [putRows_there _ k v ht e hl]
    have hk : insKey (keysL log) k = keysL log := by
      unfold insKey
      rw [if_pos (by rw [← there_keys]; exact ht)]
    unfold rowsL
    rw [keysL_snoc, hk]
    have e' := e
    unfold rowsL at e'
    obtain ⟨k1, k2, e1, e2, e3⟩ := List.map_eq_append_iff.1 e'
    obtain ⟨k3, k4, e4, e5, e6⟩ := List.map_eq_cons_iff.1 e3
    simp only [Rw.mk.injEq] at e5
    obtain ⟨rfl, e7⟩ := e5
    rw [e1, e4, List.map_append, List.map_cons, rows_congr (fun r hr => hne (h1 r hr)) e2.symm, rows_congr (fun r hr => hne' (h2 r hr)) e6.symm, ofKey_same, e7]
  | false =>
    obtain ⟨h1, _, _⟩ := cut _ h.rises k
    have h2 := there_not _ h.rises k ht
    rw [putRows_new _ k v ht]
    have hk : insKey (keysL log) k = (keysL log).take (lb (rowsL log) k) ++ k :: (keysL log).drop (lb (rowsL log) k) := by
      unfold insKey
      rw [if_neg (by rw [← there_keys, ht]; decide), lb_keys]
    have hn : ofKey log k = [] := by
      unfold ofKey
      rw [List.filter_eq_nil_iff.2 ?_]
      · rfl
      · intro p hp e
        have e := cmpS_zero _ _ (by simpa using e)
        have h3 := h.all p hp
        rw [e] at h3
        have := (there_iff _ h.rises k).2 ⟨⟨k, ofKey log k⟩, List.mem_map.2 ⟨k, h3, rfl⟩, rfl⟩
        rw [ht] at this
        cases this
    unfold rowsL
    rw [keysL_snoc, hk, List.map_append, List.map_cons, ofKey_same, hn, List.nil_append]
    have q1 : (rowsL log).take (lb (rowsL log) k) = ((keysL log).take (lb (rowsL log) k)).map (fun k => ⟨k, ofKey log k⟩) := by unfold rowsL; rw [List.map_take]
    have q2 : (rowsL log).drop (lb (rowsL log) k) = ((keysL log).drop (lb (rowsL log) k)).map (fun k => ⟨k, ofKey log k⟩) := by unfold rowsL; rw [List.map_drop]
    rw [rows_congr (fun r hr => hne (h1 r hr)) q1, rows_congr (fun r hr => hne' (h2 r hr)) q2]
    rfl
theorem mem_insKey (ks : List ByteArray) (k x : ByteArray) (h : x ∈ insKey ks k) : x ∈ ks ∨ x = k := by
  unfold insKey at h
  by_cases hc : kIs ks k = true
  · rw [if_pos hc] at h
    exact .inl h
  · rw [if_neg hc] at h
    rcases List.mem_append.1 h with h | h
    · exact .inl (List.mem_of_mem_take h)
    · rcases List.mem_cons.1 h with h | h
      · exact .inr h
      · exact .inl (List.mem_of_mem_drop h)
theorem insKey_mem (ks : List ByteArray) (k x : ByteArray) (h : x ∈ ks ∨ x = k) : x ∈ insKey ks k := by
  unfold insKey
  by_cases hc : kIs ks k = true
  · rw [if_pos hc]
    rcases h with h | rfl
    · exact h
    · unfold kIs at hc
      cases hx : ks[kAt ks x]? with
      | none => rw [hx] at hc; cases hc
      | some y =>
        rw [hx] at hc
        simp only [decide_eq_true_eq] at hc
        rw [← cmpS_zero _ _ hc]
        exact List.mem_of_getElem? hx
  · rw [if_neg hc]
    rcases h with h | rfl
    · rw [← List.take_append_drop (kAt ks k) ks] at h
      rcases List.mem_append.1 h with h | h <;> simp [h]
    · simp
theorem good_nil : Good [] := ⟨List.Pairwise.nil, by simp, by simp [keysL]⟩
theorem good_snoc (log : Log) (h : Good log) (k : ByteArray) (v : Vn) : Good (log ++ [(k, v)]) := by
  refine ⟨?_, ?_, ?_⟩
  · rw [rowsL_snoc log h]; exact putRows_rises _ h.rises k v
  · intro p hp
    rw [keysL_snoc]
    rcases List.mem_append.1 hp with hp | hp
    · exact insKey_mem _ _ _ (.inl (h.all p hp))
    · rw [List.mem_singleton.1 hp]; exact insKey_mem _ _ _ (.inr rfl)
  · intro x hx
    rw [keysL_snoc] at hx
    rcases mem_insKey _ _ _ hx with hx | rfl
    · obtain ⟨p, hp, e⟩ := h.some_ x hx
      exact ⟨p, by simp [hp], e⟩
    · exact ⟨(x, v), by simp, rfl⟩
theorem newestL_eq (log : Log) (h : Good log) (k : ByteArray) : newest (rowsL log) k = newestL log k := by
  unfold newest newestL
  cases ht : there (rowsL log) k with
  | true =>
    obtain ⟨A, B, vs, e, hl, h1, h2⟩ := there_split _ h.rises k ht
    have hm : (⟨k, vs⟩ : Rw) ∈ rowsL log := by rw [e]; simp
    obtain ⟨x, hx, e2⟩ := List.mem_map.1 hm
    simp only [Rw.mk.injEq] at e2
    obtain ⟨rfl, rfl⟩ := e2
    rw [if_pos rfl, ← hl]
    have : (rowsL log)[A.length]? = some ⟨x, ofKey log x⟩ := by rw [e]; simp
    rw [this]
  | false =>
    rw [if_neg (by decide)]
    have hn : ofKey log k = [] := by
      unfold ofKey
      rw [List.filter_eq_nil_iff.2 ?_]
      · rfl
      · intro p hp e
        have e := cmpS_zero _ _ (by simpa using e)
        have h3 := h.all p hp
        rw [e] at h3
        have := (there_iff _ h.rises k).2 ⟨⟨k, ofKey log k⟩, List.mem_map.2 ⟨k, h3, rfl⟩, rfl⟩
        rw [ht] at this
        cases this
    rw [hn]
    rfl
theorem putErr_eq (log : Log) (h : Good log) (k : ByteArray) (v : Vn) : putErr (rowsL log) k v = putErrL log k v := by
  unfold putErr putErrL
  rw [newestL_eq log h]
/-- A put, on both sides. -/
theorem put_eq (log : Log) (h : Good log) (k : ByteArray) (v : Vn) : put (rowsL log) k v = rowsL (putL log k v) ∧ Good (putL log k v) := by
  unfold put putL
  rw [putErr_eq log h]
  split
  · exact ⟨(rowsL_snoc log h k v).symm, good_snoc log h k v⟩
  · exact ⟨rfl, h⟩
end Go.Proofs.Ytphenpncdhgdhaa.Ver
