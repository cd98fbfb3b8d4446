/- (*Store).Rows, walked: what is told is its own. -/
import Derived.Test.YtphenpncdhgdhaaCloneW
namespace Go.Proofs.Ytphenpncdhgdhaa.Ver
open Go.RowKit Go.Proofs.YtphenpncdhgdhaaW.PrintWords Go.Proofs.YtphenpncdhgdhaaW.PrintLast Go.Proofs.YtphenpncdhgdhaaW.PrintMore Go.Proofs.Ytphenpncdhgdhaa.Sl Go.Proofs.Ytphenpncdhgdhaa.Str
set_option linter.unusedVariables false
set_option linter.unusedSimpArgs false
theorem inner_snoc (rows : List Rw) (ns : List Value) (j : Nat) (hj : j < rows.length) (hn : ns.length = j) (r : Value) :
    inner (rows.take (j + 1)) (ns ++ [r]) = inner (rows.take j) ns ++ [HP.row kVn 131 r rows[j].vs] := by
  unfold inner
  rw [List.take_succ_eq_append_getElem hj, List.zipWith_append (by rw [List.length_take]; omega)]
  rfl
theorem st_snoc {w0 w : World} {S0 : Nat → Prop} {F L : List HP} {A : HP} (h : St w0 S0 w (A :: Sl.all L :: F)) : St w0 S0 w (Sl.all (L ++ [A]) :: F) :=
  h.unstar.head ((Gives.comm _ _).trans (((Gives.refl _).star (Gives.emp_intro A)).trans (Gives.app_all L [A])))
theorem rowsC_next (rows : List Rw) (us ns : List Value) (hu : us.length = rows.length) (j : Nat) (hj : j < rows.length) (hn : ns.length = j) (r : Value) :
    (rowsC rows (ns ++ us.drop j)).set j [.string rows[j].key, r] = rowsC rows ((ns ++ [r]) ++ us.drop (j + 1)) := by
  have hd : us.drop j = us[j]'(by omega) :: us.drop (j + 1) := List.drop_eq_getElem_cons (by omega)
  apply List.ext_getElem?
  intro i
  by_cases e : j = i
  · subst e
    have h1 : ((ns ++ [r]) ++ us.drop (j + 1))[j]? = some r := by rw [List.getElem?_append_left (by simp; omega), List.getElem?_append_right (by omega)]; simp [hn]
    rw [List.getElem?_set_self (by simp [rowsC]; omega)]
    simp only [rowsC, List.getElem?_zipWith, h1, List.getElem?_eq_getElem hj]
  · have h1 : ((ns ++ [r]) ++ us.drop (j + 1))[i]? = (ns ++ us.drop j)[i]? := by
      rw [hd]
      by_cases h2 : i < j
      · rw [List.getElem?_append_left (by simp; omega), List.getElem?_append_left (by omega), List.getElem?_append_left (by omega)]
      · rw [List.getElem?_append_right (by simp; omega), List.getElem?_append_right (by omega), List.length_append, List.length_singleton, hn]
        obtain ⟨k, rfl⟩ : ∃ k, i = j + 1 + k := ⟨i - j - 1, by omega⟩
        rw [show j + 1 + k - (j + 1) = k by omega, show j + 1 + k - j = k + 1 by omega, List.getElem?_cons_succ]
    rw [List.getElem?_set_ne e]
    simp only [rowsC, List.getElem?_zipWith, h1]
theorem rowsC_cell (rows : List Rw) (us ns : List Value) (hu : us.length = rows.length) (j : Nat) (hj : j < rows.length) (hn : ns.length = j) : (rowsC rows (ns ++ us.drop j))[j]? = some [.string rows[j].key, us[j]'(by omega)] := by
  have hd : us.drop j = us[j]'(by omega) :: us.drop (j + 1) := List.drop_eq_getElem_cons (by omega)
  have h1 : (ns ++ us.drop j)[j]? = some (us[j]'(by omega)) := by rw [List.getElem?_append_right (by omega), hn, Nat.sub_self, hd]; rfl
  simp [rowsC, List.getElem?_zipWith, h1, List.getElem?_eq_getElem hj]
theorem inner_self (rows : List Rw) (us : List Value) (hu : us.length = rows.length) (j : Nat) (hj : j < rows.length) : (inner rows us).set j (HP.row kVn 131 (us[j]'(by omega)) rows[j].vs) = inner rows us := by
  apply List.ext_getElem?
  intro i
  by_cases e : j = i
  · subst e
    rw [List.getElem?_set_self (by simp [inner]; omega), inner_get hu j hj]
  · rw [List.getElem?_set_ne e]
set_option maxHeartbeats 4000000 in
set_option maxRecDepth 20000 in
theorem rows_fun (g : Nat) (u : Value) (rows : List Rw) (us : List Value) (hu : us.length = rows.length) (hl : rows.length * 40 ≤ 140737488355328) (hvl : ∀ r ∈ rows, r.vs.length * 32 ≤ 140737488355328) :
    Fun Try.prog 40 #[.pointer (some ⟨g, 0, none⟩)] (fun _ => True) [storeH g u rows us]
      (fun r => [HP.ex fun ns : List Value => HP.and (ns.length = rows.length) (Sl.all [HP.row (raw 2) 86 r (rowsC rows ns), Sl.all (inner rows ns)]), storeH g u rows us]) := by
  intro w S hS hR
  have HS := storeH_open (St.start hS)
  clear hS hR
  have hu62 := Try.underlying124
  have hu53 := Try.underlying86
  have hu48 := Try.underlying74
  have hu51 := Try.underlying84
  have HVL := Aside0.mk hvl
  have HU := Aside0.mk hu
  have q0 : w.cell? ⟨g, 0, none⟩ = some u := HS.cell 0
  have hxl : (rowsC rows us).length = rows.length := rowsC_length hu
  have HXL := Aside0.mk hxl
  clear hvl hu hxl
  go_enter Try.func40, Try.ntmps40
  go_wp2_with fail
  refine ((cloneR_fun u (rowsC rows us) (by rw [HXL.out]; exact hl)).call (F := [HP.obj g 124 [u], Sl.all (inner rows us)]) (HS.mv 1) (fun _ _ _ _ => trivial)).mono ?_
  rintro e_ w1 ⟨vl, rfl, HS_⟩
  clear HS q0
  have HS : St w S w1 [HP.row (raw 2) 86 vl (rowsC rows us), HP.row (raw 2) 86 u (rowsC rows us), HP.obj g 124 [u], Sl.all (inner rows us)] := HS_
  clear HS_
  obtain ⟨Al, cl, rvl, hcl, hCl⟩ := St.row_C HS
  rw [HXL.out] at rvl
  subst rvl
  clear hcl hCl
  have hl0 : rows.length ≤ 140737488355328 := by omega
  have HS : St w S w1 [HP.row (raw 2) 86 (.slice Al rows.length cl) (rowsC rows ([] ++ us.drop 0)), Sl.all (inner (rows.take 0) []), HP.obj g 124 [u], HP.row (raw 2) 86 u (rowsC rows us), Sl.all (inner rows us)] := by
    have h1 : St w S w1 (Sl.all (inner (rows.take 0) []) :: _) := HS.idle
    exact ((((h1.mv 4).mv 3).mv 4).mv 3).mv 4
  go_wp2_with fail
  go_loopw [14] (fun v14 w' => ∃ (j : Nat) (ns : List Value), j ≤ rows.length ∧ v14 = .int .i64 j ∧ Aside0 (ns.length = j) ∧ St w S w' [HP.row (raw 2) 86 (.slice Al rows.length cl) (rowsC rows (ns ++ us.drop j)), Sl.all (inner (rows.take j) ns), HP.obj g 124 [u], HP.row (raw 2) 86 u (rowsC rows us), Sl.all (inner rows us)]) (fun v14 _ => rows.length - (intOf v14).toNat)
  case atStart => exact ⟨0, [], Nat.zero_le _, rfl, ⟨rfl⟩, HS⟩
  case round =>
    clear HS
    obtain ⟨j, ns, hj, rfl, HN, HS⟩ := hrel
    by_cases hlt : j < rows.length
    · have hltI : (j : Int) < (rows.length : Int) := by omega
      have hj0 : (0 : Int) ≤ (j : Int) := by omega
      have hjd : decide ((j : Int) < (rows.length : Int)) = true := decide_eq_true hltI
      obtain ⟨gl, c_, ev⟩ := St.row_form HS (by rw [rowsC_length (by simp [HN.out, HU.out]; omega)]; omega)
      simp only [Value.slice.injEq] at ev
      obtain ⟨rfl, -, rfl⟩ := ev
      have hju : j < us.length := by rw [HU.out]; exact hlt
      obtain ⟨uj, huj⟩ : ∃ uj, us[j] = uj := ⟨_, rfl⟩
      have hrc := rowsC_cell rows us ns HU.out j hlt HN.out
      rw [huj] at hrc
      have HRC := Aside0.mk hrc
      have HUJ := Aside0.mk huj
      have q1 : wr.cell? ⟨gl, j * 2 + 1, none⟩ = some uj := (St.raw_cell HS j 1 hrc (by omega)).1
      clear hrc huj
      go_wp2_with fail
      have HI := st_pick (HS.mv 4) j (inner_get HU.out j hlt)
      rw [HUJ.out] at HI
      refine ((cloneV_fun uj rows[j].vs (HVL.out _ (List.getElem_mem hlt))).call (F := [Sl.all ((inner rows us).eraseIdx j), HP.row (raw 2) 86 (.slice (some ⟨gl, 0, none⟩) rows.length cl) (rowsC rows (ns ++ us.drop j)), Sl.all (inner (rows.take j) ns), HP.obj g 124 [u], HP.row (raw 2) 86 u (rowsC rows us)]) HI (fun _ _ _ _ => trivial)).mono ?_
      rintro e_ w2 ⟨r, rfl, HS_⟩
      clear HS HI q1
      have HS : St w S w2 [HP.row kVn 131 r rows[j].vs, HP.row kVn 131 uj rows[j].vs, Sl.all ((inner rows us).eraseIdx j), HP.row (raw 2) 86 (.slice (some ⟨gl, 0, none⟩) rows.length cl) (rowsC rows (ns ++ us.drop j)), Sl.all (inner (rows.take j) ns), HP.obj g 124 [u], HP.row (raw 2) 86 u (rowsC rows us)] := HS_
      clear HS_
      obtain ⟨Ar, cr, rr, hcr, hCr⟩ := St.row_C HS
      obtain ⟨nr, hnr⟩ : ∃ nr, rows[j].vs.length = nr := ⟨_, rfl⟩
      rw [hnr] at rr
      subst rr
      clear hcr hCr hnr
      have qc : w2.cell? ⟨gl, j * 2 + 1, none⟩ = some uj := (St.raw_cell (HS.mv 3) j 1 HRC.out (by omega)).1
      have qf := (St.raw_cell (HS.mv 3) j 1 HRC.out (by omega)).2
      have H1 := St.raw_set (HS.mv 3) j 1 HRC.out (by omega) (.slice Ar nr cr) rfl
      have H1 : St w S (w2.setCell ⟨gl, j * 2 + 1, none⟩ (.slice Ar nr cr)) (HP.row (raw 2) 86 (.slice (some ⟨gl, 0, none⟩) rows.length cl) ((rowsC rows (ns ++ us.drop j)).set j [.string rows[j].key, .slice Ar nr cr]) :: _) := H1
      rw [rowsC_next rows us ns HU.out j hlt HN.out] at H1
      have H2 := st_back (L := inner rows us) j (by simp [inner, HU.out]; exact hlt) ((H1.mv 3).mv 3)
      rw [← HUJ.out, inner_self rows us HU.out j hlt] at H2
      have H3 := st_snoc ((H2.mv 3).mv 3)
      rw [← inner_snoc rows ns j hlt HN.out] at H3
      have H4 := Aside0.mk (((((H3.mv 1).mv 4).mv 4).mv 3).mv 4)
      clear H1 H2 H3 HS
      go_wp2
      go_roundw
      case rel => refine ⟨j + 1, ns ++ [Value.slice Ar nr cr], by omega, by go_num, ⟨by rw [List.length_append, HN.out]; rfl⟩, ?_⟩; exact H4.out
      case measure => simp [intOf]; omega
    · obtain rfl : j = rows.length := by omega
      have hjd : decide ((rows.length : Int) < (rows.length : Int)) = false := decide_eq_false (by omega)
      rw [List.take_length, ← HU.out, List.drop_length, List.append_nil] at HS
      have HE := Aside0.mk (((storeH_shut (((HS.mv 4).mv 4).mv 4)).mv 2).mv 2)
      clear HS
      go_wp2
      go_ret
      exact ⟨_, rfl, St.ex_in ns (St.and_in HN.out (St.unall (L := [_, _]) (by first | exact HE.out | (rw [← HU.out]; exact HE.out))))⟩
end Go.Proofs.Ytphenpncdhgdhaa.Ver
