/- A store's assertion: its rows, each with a row of its own; (*Store).Newest walked. -/
import Derived.Test.YtphenpncdhgdhaaFindW
namespace Go.Proofs.Ytphenpncdhgdhaa.Ver
open Go.RowKit Go.Proofs.YtphenpncdhgdhaaW.PrintWords Go.Proofs.YtphenpncdhgdhaaW.PrintLast Go.Proofs.YtphenpncdhgdhaaW.PrintMore Go.Proofs.Ytphenpncdhgdhaa.Sl Go.Proofs.Ytphenpncdhgdhaa.Str
set_option linter.unusedVariables false
set_option linter.unusedSimpArgs false
theorem all_pick : ∀ (L : List HP) (j : Nat) (A : HP) (h : L[j]? = some A), Gives (Sl.all L) (HP.star A (Sl.all (L.eraseIdx j)))
  | [], j, A, h => by simp at h
  | B :: L, 0, A, h => by
    simp only [List.getElem?_cons_zero, Option.some.injEq] at h
    subst h
    exact Gives.refl _
  | B :: L, j + 1, A, h => ((Gives.refl B).star (all_pick L j A (by simpa using h))).trans (Gives.swap _ _ _)
theorem all_back (A : HP) : ∀ (L : List HP) (j : Nat) (h : j < L.length), Gives (HP.star A (Sl.all (L.eraseIdx j))) (Sl.all (L.set j A))
  | [], j, h => by simp at h
  | B :: L, 0, h => Gives.refl _
  | B :: L, j + 1, h => (Gives.swap _ _ _).trans ((Gives.refl B).star (all_back A L j (by simpa using h)))
theorem st_pick {w0 w : World} {S0 : Nat → Prop} {F L : List HP} {A : HP} (h : St w0 S0 w (Sl.all L :: F)) (j : Nat) (hj : L[j]? = some A) : St w0 S0 w (A :: Sl.all (L.eraseIdx j) :: F) := (h.head (all_pick L j A hj)).star_
theorem st_back {w0 w : World} {S0 : Nat → Prop} {F L : List HP} {A : HP} (j : Nat) (hj : j < L.length) (h : St w0 S0 w (A :: Sl.all (L.eraseIdx j) :: F)) : St w0 S0 w (Sl.all (L.set j A) :: F) := (h.unstar).head (all_back A L j hj)
theorem kVn_open {w : World} {x : Vn} {cs : List Value} (h : kVn.K w x cs) : cs = [.int .i64 x.ts, .string x.val, .bool x.dead] := by
  obtain ⟨_, _, rfl, rfl, ⟨_, _, rfl, rfl, rfl⟩⟩ := h
  exact rfl
theorem kVn_mkM (w : World) (base : Nat) (ok : Nat → Prop) (x : Vn) : kVn.M w base ok x [.int .i64 x.ts, .string x.val, .bool x.dead] := ⟨[.int .i64 x.ts], [.string x.val, .bool x.dead], rfl, rfl, ⟨[.string x.val], [.bool x.dead], rfl, rfl, rfl⟩⟩
theorem inner_get {rows : List Rw} {us : List Value} (hu : us.length = rows.length) (j : Nat) (hj : j < rows.length) : (inner rows us)[j]? = some (HP.row kVn 131 (us[j]'(by omega)) rows[j].vs) := by
  simp [inner, List.getElem?_zipWith, List.getElem?_eq_getElem hj, List.getElem?_eq_getElem (show j < us.length by omega)]
theorem inner_set (rows : List Rw) (us : List Value) (hu : us.length = rows.length) (j : Nat) (hj : j < rows.length) (u' : Value) (vs' : List Vn) :
    (inner rows us).set j (HP.row kVn 131 u' vs') = inner (rows.set j ⟨rows[j].key, vs'⟩) (us.set j u') := by
  apply List.ext_getElem?
  intro i
  have hl : (inner rows us).length = rows.length := by simp [inner, hu]
  by_cases e : j = i
  · subst e
    simp [inner, List.getElem?_set, List.getElem?_zipWith, hj, hu]
  · simp [inner, List.getElem?_set_ne e, List.getElem?_zipWith]
theorem rows_cell {rows : List Rw} {us : List Value} (hu : us.length = rows.length) (j : Nat) (hj : j < rows.length) : (rowsC rows us)[j]? = some [.string rows[j].key, us[j]'(by omega)] := by
  simp [rowsC, List.getElem?_zipWith, List.getElem?_eq_getElem hj, List.getElem?_eq_getElem (show j < us.length by omega)]
theorem rowsC_length {rows : List Rw} {us : List Value} (hu : us.length = rows.length) : (rowsC rows us).length = rows.length := by simp [rowsC, hu]
theorem storeH_open {w0 w : World} {S0 : Nat → Prop} {F : List HP} {g : Nat} {u : Value} {rows : List Rw} {us : List Value} (h : St w0 S0 w (storeH g u rows us :: F)) :
    St w0 S0 w (HP.obj g 124 [u] :: HP.row (raw 2) 86 u (rowsC rows us) :: Sl.all (inner rows us) :: F) := St.all_ h
theorem storeH_shut {w0 w : World} {S0 : Nat → Prop} {F : List HP} {g : Nat} {u : Value} {rows : List Rw} {us : List Value} (h : St w0 S0 w (HP.obj g 124 [u] :: HP.row (raw 2) 86 u (rowsC rows us) :: Sl.all (inner rows us) :: F)) :
    St w0 S0 w (storeH g u rows us :: F) := St.unall (L := [_, _, _]) h
theorem there_at {rows : List Rw} {k : ByteArray} (h : there rows k = true) : ∃ h : lb rows k < rows.length, rows[lb rows k].key = k := by
  unfold there at h
  split at h
  · rename_i r hr
    obtain ⟨hl, e⟩ := List.getElem?_eq_some_iff.1 hr
    exact ⟨hl, by rw [e]; exact cmpS_zero _ _ (of_decide_eq_true h)⟩
  · cases h
end Go.Proofs.Ytphenpncdhgdhaa.Ver
