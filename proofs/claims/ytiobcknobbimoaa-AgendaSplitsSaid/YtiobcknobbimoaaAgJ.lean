/- Taking one by one: plain. -/
import Derived.Test.YtiobcknobbimoaaAgI
namespace Go.Proofs.Ytiobcknobbimoaa.Ag
open Go.RowKit Go.Proofs.YtiobcknobbimoaaW.PrintWords Go.Proofs.YtiobcknobbimoaaW.PrintLast Go.Proofs.YtiobcknobbimoaaW.PrintMore Go.Proofs.Ytiobcknobbimoaa.Sl Go.Proofs.Ytiobcknobbimoaa.Row
set_option linter.unusedVariables false
set_option linter.unusedSimpArgs false
/-- What is left when k things have been taken. -/
def itL (L : List Th) : Nat → List Th
  | 0 => L
  | k + 1 => match nextL (itL L k) with
    | some u => dropL (itL L k) u.what
    | none => itL L k
/-- What has been taken. -/
def wh (L : List Th) : Nat → List Int
  | 0 => []
  | k + 1 => wh L k ++ (match nextL (itL L k) with
    | some u => [u.what]
    | none => [])
def TakeOk (L : List Th) (k : Nat) (T : Int) : Prop := ∀ i, i < k → ∃ u, nextL (itL L i) = some u ∧ u.due ≤ T
def Stop (L : List Th) (k : Nat) (T : Int) : Prop := ∀ u, nextL (itL L k) = some u → T < u.due
theorem stop_eq {L : List Th} {k1 k2 : Nat} {T : Int} (h1 : TakeOk L k1 T) (s1 : Stop L k1 T) (h2 : TakeOk L k2 T) (s2 : Stop L k2 T) : k1 = k2 := by
  rcases Nat.lt_trichotomy k1 k2 with h | h | h
  · obtain ⟨u, hu, hd⟩ := h2 k1 h
    have := s1 u hu
    omega
  · exact h
  · obtain ⟨u, hu, hd⟩ := h1 k2 h
    have := s2 u hu
    omega
theorem take_next {L : List Th} {k : Nat} {u : Th} (h : nextL (itL L k) = some u) : itL L (k + 1) = dropL (itL L k) u.what ∧ wh L (k + 1) = wh L k ++ [u.what] := by
  constructor
  · show (match nextL (itL L k) with | some u => dropL (itL L k) u.what | none => itL L k) = _
    rw [h]
  · show wh L k ++ (match nextL (itL L k) with | some u => [u.what] | none => []) = _
    rw [h]
theorem it_uniq {L : List Th} (hu : Uniq L) : ∀ k, Uniq (itL L k)
  | 0 => hu
  | k + 1 => by
    show Uniq (match nextL (itL L k) with | some u => dropL (itL L k) u.what | none => itL L k)
    cases nextL (itL L k) with
    | none => exact it_uniq hu k
    | some u => exact (it_uniq hu k).sublist List.filter_sublist
theorem it_len {L : List Th} (hu : Uniq L) {T : Int} : ∀ k, TakeOk L k T → (itL L k).length + k = L.length ∧ (wh L k).length = k
  | 0, _ => ⟨rfl, rfl⟩
  | k + 1, h => by
    obtain ⟨h1, h2⟩ := it_len hu k (fun i hi => h i (by omega))
    obtain ⟨u, hn, _⟩ := h k (by omega)
    obtain ⟨e1, e2⟩ := take_next hn
    have := drop_len (it_uniq hu k) (nextL_some hn).1
    refine ⟨by rw [e1]; omega, by rw [e2, List.length_append, List.length_singleton, h2]⟩
theorem take_succ {L : List Th} {k : Nat} {T : Int} (h : TakeOk L k T) {u : Th} (hn : nextL (itL L k) = some u) (hd : u.due ≤ T) : TakeOk L (k + 1) T := fun i hi => by
  by_cases e : i = k
  · subst e; exact ⟨u, hn, hd⟩
  · exact h i (by omega)
theorem pop_cases (L : List Th) (t : Int) : (∃ u, nextL L = some u ∧ u.due ≤ t ∧ popR L t = .tuple #[.int .i64 u.what, .bool true] ∧ popL L t = dropL L u.what) ∨ ((∀ u, nextL L = some u → t < u.due) ∧ popR L t = .tuple #[.int .i64 0, .bool false] ∧ popL L t = L) := by
  unfold popR popL
  cases hn : nextL L with
  | none => exact .inr ⟨fun u h => (by cases h), rfl, rfl⟩
  | some u =>
    by_cases h : u.due > t
    · exact .inr ⟨fun v hv => by obtain rfl := Option.some.inj hv; exact h, if_pos h, if_pos h⟩
    · exact .inl ⟨u, rfl, by omega, if_neg h, if_neg h⟩
/-- Where a loop of takings stands: after k takings, and one more that was, or was not, made. -/
structure Taking (L : List Th) (T t : Int) (k : Nat) (b : Bool) (x : Int) (M : List Th) : Prop where
  ok : TakeOk L k T
  yes : b = true → ∃ u, nextL (itL L k) = some u ∧ u.due ≤ T ∧ u.what = x ∧ M = itL L (k + 1)
  no : b = false → Stop L k t ∧ M = itL L k
theorem taking_first {L : List Th} {T t : Int} {k : Nat} (h : TakeOk L k T) (ht : t ≤ T) : ∃ b x, popR (itL L k) t = .tuple #[.int .i64 x, .bool b] ∧ Taking L T t k b x (popL (itL L k) t) := by
  rcases pop_cases (itL L k) t with ⟨u, hn, hd, e1, e2⟩ | ⟨hs, e1, e2⟩
  · exact ⟨true, u.what, e1, ⟨h, fun _ => ⟨u, hn, by omega, rfl, by rw [e2, (take_next hn).1]⟩, fun e => (by cases e)⟩⟩
  · exact ⟨false, 0, e1, ⟨h, fun e => (by cases e), fun _ => ⟨hs, e2⟩⟩⟩
theorem taking_ok {L : List Th} {T t : Int} {k : Nat} {x : Int} {M : List Th} (h : Taking L T t k true x M) : TakeOk L (k + 1) T ∧ M = itL L (k + 1) ∧ wh L (k + 1) = wh L k ++ [x] := by
  obtain ⟨u, hn, hd, hx, hm⟩ := h.yes rfl
  refine ⟨take_succ h.ok hn hd, hm, ?_⟩
  rw [(take_next hn).2, hx]
theorem setsL_len (l : List OpA) : (setsL l).length ≤ l.length := by
  unfold setsL
  have : ∀ (l : List OpA) (L : List Th), (l.foldl (fun L x => setL L x.what x.due) L).length ≤ L.length + l.length := by
    intro l
    induction l with
    | nil => intro L; simp
    | cons x l ih =>
      intro L
      have h1 := ih (setL L x.what x.due)
      have h2 := setL_len L x.what x.due
      rw [List.foldl_cons, List.length_cons]
      omega
  simpa using this l []
theorem flatInt : Flat (Kd.int .i64) := fun _ _ _ _ h => h
theorem infoInt : (Try.prog.info? 3).map (fun i => (i.zero, i.size, i.bytes)) = some (some (.int .i64 0), 1, 8) := by kernel_rfl
def okN : Value → Nat
  | .bool true => 1
  | _ => 0
end Go.Proofs.Ytiobcknobbimoaa.Ag
