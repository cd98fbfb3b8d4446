/- (*Store).Newest, walked. -/
import Derived.Test.YtphenpncdhgdhaaStoreW
namespace Go.Proofs.Ytphenpncdhgdhaa.Ver
open Go.RowKit Go.Proofs.YtphenpncdhgdhaaW.PrintWords Go.Proofs.YtphenpncdhgdhaaW.PrintLast Go.Proofs.YtphenpncdhgdhaaW.PrintMore Go.Proofs.Ytphenpncdhgdhaa.Sl Go.Proofs.Ytphenpncdhgdhaa.Str
set_option linter.unusedVariables false
set_option linter.unusedSimpArgs false
theorem flat_cell {α : Type} {d : Kd α} {enc : α → List Value} (hopen : ∀ {w : World} {x : α} {cs : List Value}, d.K w x cs → cs = enc x) {e : TypeId} {w0 w : World} {S0 : Nat → Prop} {F : List HP} {g n c : Nat} {xs : List α}
    (h : St w0 S0 w (HP.row d e (.slice (some ⟨g, 0, none⟩) n c) xs :: F)) (j : Nat) (hj : j < xs.length) (i : Nat) (hi : i < (enc xs[j]).length) : w.cell? ⟨g, j * d.sz + i, none⟩ = some ((enc xs[j])[i]) := by
  have hC := (St.row_reads h).2.2
  obtain ⟨ad, e1, hc⟩ := hC.2.2 (by omega)
  obtain rfl : ad = ⟨g, 0, none⟩ := (Option.some.inj e1).symm
  obtain ⟨cs, _, hK, hcell⟩ := hc j xs[j] (List.getElem?_eq_getElem hj)
  obtain rfl := hopen hK
  have := hcell i _ (List.getElem?_eq_getElem hi)
  rw [add_plain] at this
  exact this
theorem row_max {w0 w : World} {S0 : Nat → Prop} {F : List HP} {α : Type} {d : Kd α} {e : TypeId} {v : Value} {xs : List α} (h : St w0 S0 w (HP.row d e v xs :: F)) : xs.length ≤ 9223372036854775807 := by
  obtain ⟨ext, S, ⟨S1, S2, a, b⟩, s⟩ := h
  obtain ⟨h0, inner, ⟨h1, h2⟩, hr⟩ := a
  rcases h2 with ⟨h2, h3⟩ | ⟨g', cap', cur, h2, _, hh, hle, hm, hsz, ht⟩
  · omega
  · have : cap' ≤ 9223372036854775807 := by simpa [maxLen] using hm
    omega
theorem vn_cells {w0 w : World} {S0 : Nat → Prop} {F : List HP} {g n c : Nat} {xs : List Vn} (h : St w0 S0 w (HP.row kVn 131 (.slice (some ⟨g, 0, none⟩) n c) xs :: F)) (j : Nat) (hj : j < xs.length) :
    w.cell? ⟨g, j * 3, none⟩ = some (.int .i64 xs[j].ts) ∧ w.cell? ⟨g, j * 3 + 1, none⟩ = some (.string xs[j].val) ∧ w.cell? ⟨g, j * 3 + 2, none⟩ = some (.bool xs[j].dead) := by
  have hf := fun i hi => flat_cell (enc := fun x : Vn => [.int .i64 x.ts, .string x.val, .bool x.dead]) kVn_open h j hj i hi
  exact ⟨hf 0 (by simp), hf 1 (by simp), hf 2 (by simp)⟩
set_option maxHeartbeats 2000000 in
set_option maxRecDepth 10000 in
theorem newest_fun (g : Nat) (u : Value) (rows : List Rw) (us : List Value) (hr : Rises rows) (hf : Full rows) (hu : us.length = rows.length) (hl : rows.length ≤ 140737488355328) (key : ByteArray) :
    FunV Try.prog 84 #[.pointer (some ⟨g, 0, none⟩), .string key] (fun _ => True) [storeH g u rows us] (.int .i64 (newest rows key)) [storeH g u rows us] := by
  intro w S hS hR
  have HS := storeH_open (St.start hS)
  clear hS hR
  have hu62 := Try.underlying124
  have hu53 := Try.underlying86
  have hu48 := Try.underlying74
  have hu51 := Try.underlying84
  have hu29 := Try.underlying131
  have HF := Aside0.mk hf
  clear hf
  go_enter Try.func84, Try.ntmps84
  go_wp2_with fail
  refine ((find_fun g u rows us hr hu hl key).call (F := [Sl.all (inner rows us)]) HS (fun _ _ _ _ => trivial)).mono ?_
  rintro e_ w1 ⟨rfl, HS_⟩
  clear HS
  have HS : St w S w1 (HP.obj g 124 [u] :: HP.row (raw 2) 86 u (rowsC rows us) :: Sl.all (inner rows us) :: []) := HS_
  clear HS_
  cases hth : there rows key
  · have hnw : newest rows key = 0 := by unfold newest; rw [hth]; rfl
    have HN := Aside0.mk hnw
    clear hnw hth
    go_wp2
    go_ret
    exact ⟨by first | (rw [HN.out]; done) | (rw [HN.out]; rfl), storeH_shut HS⟩
  · obtain ⟨hi, hik⟩ := there_at hth
    have hnw : newest rows key = lastTs rows[lb rows key].vs := by
      unfold newest
      rw [hth, List.getElem?_eq_getElem hi]
      rfl
    have HN := Aside0.mk hnw
    clear hnw hth hik
    generalize lb rows key = i at hi HN ⊢
    have hiI : (i : Int) < (rows.length : Int) := by omega
    have hi0 : (0 : Int) ≤ (i : Int) := by omega
    obtain ⟨hne, hts⟩ := HF.out rows[i] (List.getElem_mem hi)
    have HTS := Aside0.mk hts
    clear hts
    have hlen : 0 < rows[i].vs.length := List.length_pos_iff.2 hne
    have HP2 := HS.mv 1
    obtain ⟨gr, cr, ev⟩ := St.row_form HP2 (by rw [rowsC_length hu]; omega)
    rw [rowsC_length hu] at ev
    subst ev
    have q1 : w1.cell? ⟨gr, i * 2 + 1, none⟩ = some (us[i]'(by omega)) := (St.raw_cell HP2 i 1 (rows_cell hu i hi) (by omega)).1
    have HI := st_pick (HS.mv 2) i (inner_get hu i hi)
    obtain ⟨gi, ci, ev⟩ := St.row_form HI hlen
    rw [ev] at q1 HI
    obtain ⟨vs, hvs⟩ : ∃ vs, rows[i].vs = vs := ⟨_, rfl⟩
    rw [hvs] at q1 HI hlen HN hne
    obtain ⟨q2, -, -⟩ := vn_cells HI (vs.length - 1) (by omega)
    have q0 : w1.cell? ⟨g, 0, none⟩ = some (.slice (some ⟨gr, 0, none⟩) rows.length cr) := HS.cell 0
    have hlast : lastTs vs = (vs[vs.length - 1]'(by omega)).ts := by
      unfold lastTs
      rw [List.getLast?_eq_getElem?, List.getElem?_eq_getElem (by omega)]
    obtain ⟨t, ht⟩ : ∃ t, (vs[vs.length - 1]'(by omega)).ts = t := ⟨_, rfl⟩
    rw [ht] at q2 hlast
    have HLA := Aside0.mk hlast
    have hvl : vs.length ≤ 9223372036854775807 := row_max HI
    have hw1 : IntKind.i64.wrap ((vs.length : Int) - 1) = ((vs.length - 1 : Nat) : Int) := by rw [IntWalk.i64_in _ (by omega)]; omega
    have hb1 : ((vs.length - 1 : Nat) : Int) < (vs.length : Int) := by omega
    have hb0 : (0 : Int) ≤ ((vs.length - 1 : Nat) : Int) := by omega
    clear hlast ht hvs ev hne HP2 HI
    go_wp2
    go_ret
    exact ⟨by first | (rw [HN.out, HLA.out]; done) | (rw [HN.out, HLA.out]; rfl), storeH_shut HS⟩
end Go.Proofs.Ytphenpncdhgdhaa.Ver
