/- What the laws' walks share. -/
import Derived.Test.YtphenpncdhgdhaaShU
namespace Go.Proofs.Ytphenpncdhgdhaa.Shd
open Go.RowKit Go.Proofs.YtphenpncdhgdhaaW.PrintWords Go.Proofs.YtphenpncdhgdhaaW.PrintLast Go.Proofs.YtphenpncdhgdhaaW.PrintMore Go.Proofs.Ytphenpncdhgdhaa.Sl Go.Proofs.Ytphenpncdhgdhaa.Str Go.Proofs.Ytphenpncdhgdhaa.Ver
set_option linter.unusedVariables false
set_option linter.unusedSimpArgs false
/-- The cells that a command has besides. -/
theorem ext_one {o : OpS} (h : (cOp o).all (fun q => q.oneCell') = true) : [o.e.b1, o.e.b2, o.e.b3, o.e.d1, o.e.d2, o.e.d3, o.e.d4, o.e.d5, o.e.d6, o.e.d7, o.e.d8, o.e.d9, o.e.d10, o.e.d11, o.e.d12, o.e.d13, o.e.d14, o.e.d15, o.e.d16, o.e.d17].all (fun q => q.oneCell') = true := by
  simp only [cOp, List.all_cons, List.all_nil, Bool.and_true, Bool.and_eq_true] at h
  simp only [List.all_cons, List.all_nil, Bool.and_true, Bool.and_eq_true, h, true_and, and_true]
theorem seen_le {ps : List Rp} {p : Rp} (h : p ∈ ps) : p.r.seen.length ≤ seenN ps := by
  unfold seenN
  induction ps with
  | nil => simp at h
  | cons q ps ih =>
    simp only [List.map_cons, List.sum_cons]
    cases h with
    | head => omega
    | tail _ h => have := ih h; omega
theorem do_sizes {o : OpS} {wo : Ow} (h : ow o ≤ 3000) (hw : wo.rps.map (·.r) = o.rps.map (·.r)) : wo.rps.length ≤ 100000 ∧ o.c.wrs.length ≤ 100000 ∧ ∀ p ∈ wo.rps, p.r.seen.length ≤ 1000000 := by
  have hl : wo.rps.length = o.rps.length := by have := congrArg List.length hw; rwa [List.length_map, List.length_map] at this
  unfold ow at h
  refine ⟨by omega, by omega, fun p hp => ?_⟩
  have hm : p.r ∈ o.rps.map (·.r) := hw ▸ List.mem_map.2 ⟨p, hp, rfl⟩
  obtain ⟨q, hq, e⟩ := List.mem_map.1 hm
  have := seen_le hq
  rw [e] at this
  omega
theorem great_no {os : List OpS} (h : greatB os = false) : tot os ≤ 3000 ∧ os.length ≤ 150 := by
  unfold greatB at h
  rw [Bool.or_eq_false_iff] at h
  exact ⟨by have := of_decide_eq_false h.1; omega, by have := of_decide_eq_false h.2; omega⟩
theorem wt_ow {o : OpS} (h : OpOk o) : wt o.c ≤ ow o := by
  have : o.c.rds.length = o.rps.length := by rw [← h.map, List.length_map]
  unfold wt ow
  omega
theorem fit_op {m : Sh} {n : Nat} (h : Fit m n) {o : OpS} (ho : OpOk o) : Fit (doP m o.at_ o.c).1 (n + ow o) :=
  (fit_do h o.at_ o.c ho.keys).mono (by have := wt_ow ho; omega)
def SpOk (m : Sh) : Prop := ∀ l ∈ m.lks, ∀ p ∈ l.sps, p.a.size ≤ 140737488351232
theorem spok_do {m : Sh} (h : SpOk m) (at_ : Int) (c : Cm) (hc : ∀ r ∈ c.rds, r.sp.a.size ≤ 140737488351232) : SpOk (doP m at_ c).1 := by
  have hp : SpOk (prepP m c).1 := by
    unfold prepP
    split
    · exact h
    · split
      · exact h
      · split
        · split
          · intro l hl p hp
            rcases List.mem_append.1 hl with hl | hl
            · exact h l hl p hp
            · rw [List.mem_singleton.1 hl] at hp
              obtain ⟨r, hr, rfl⟩ := List.mem_map.1 hp
              exact hc r hr
          · exact h
        · exact h
  unfold doP
  split
  · exact hp
  · split
    · unfold commitP
      split
      · exact h
      · split <;> exact h
    · split
      · unfold abortP
        split <;> exact h
      · split
        · unfold resolveP
          split
          · exact h
          · intro l hl
            exact h l (List.mem_of_mem_eraseIdx hl)
        · exact h
end Go.Proofs.Ytphenpncdhgdhaa.Shd
