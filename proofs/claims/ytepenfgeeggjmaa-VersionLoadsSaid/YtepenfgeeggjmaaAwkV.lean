/- The laws' awake: what it computes, plain. -/
import Derived.Test.YtepenfgeeggjmaaSpanW
namespace Go.Proofs.Ytepenfgeeggjmaa.Ver
open Go.RowKit Go.Proofs.YtepenfgeeggjmaaW.PrintWords Go.Proofs.YtepenfgeeggjmaaW.PrintLast Go.Proofs.YtepenfgeeggjmaaW.PrintMore Go.Proofs.Ytepenfgeeggjmaa.Sl Go.Proofs.Ytepenfgeeggjmaa.Str
set_option linter.unusedVariables false
set_option linter.unusedSimpArgs false
def kA : ByteArray := ⟨#[97]⟩
def kB : ByteArray := ⟨#[98]⟩
def v1 : Vn := ⟨3, ⟨#[120]⟩, false⟩
def v2 : Vn := ⟨5, ⟨#[]⟩, true⟩
def v3 : Vn := ⟨5, ⟨#[121]⟩, false⟩
theorem aa : cmpS kA kA = 0 := cmpS_self _
theorem ab : cmpS kA kB = -1 := by
  unfold cmpS
  rw [toList_eq, toList_eq]
  rfl
theorem put1 : putErr [] kA v1 = 0 ∧ put [] kA v1 = [⟨kA, [v1]⟩] := by
  have e : putErr [] kA v1 = 0 := rfl
  exact ⟨e, by unfold put; rw [if_pos e]; rfl⟩
theorem lbA (vs : List Vn) : lb [⟨kA, vs⟩] kA = 0 ∧ there [⟨kA, vs⟩] kA = true := by
  have h : lb [⟨kA, vs⟩] kA = 0 := by
    unfold lb
    rw [List.takeWhile_cons_of_neg (by simp [aa])]
    rfl
  refine ⟨h, ?_⟩
  unfold there
  rw [h]
  simp [aa]
theorem newA (vs : List Vn) : newest [⟨kA, vs⟩] kA = lastTs vs := by
  unfold newest
  rw [(lbA vs).2, (lbA vs).1]
  rfl
theorem put2 : putErr [⟨kA, [v1]⟩] kA v2 = 0 ∧ put [⟨kA, [v1]⟩] kA v2 = [⟨kA, [v1, v2]⟩] := by
  have e : putErr [⟨kA, [v1]⟩] kA v2 = 0 := by unfold putErr; rw [newA]; rfl
  refine ⟨e, ?_⟩
  unfold put
  rw [if_pos e]
  unfold putRows
  rw [(lbA _).2, (lbA _).1]
  rfl
theorem put3 : putErr [⟨kA, [v1, v2]⟩] kA v3 = 120 ∧ put [⟨kA, [v1, v2]⟩] kA v3 = [⟨kA, [v1, v2]⟩] := by
  have e : putErr [⟨kA, [v1, v2]⟩] kA v3 = 120 := by unfold putErr; rw [newA]; rfl
  exact ⟨e, by unfold put; rw [e]; rfl⟩
theorem spanA (vs : List Vn) (ts : Int) : span [⟨kA, vs⟩] kA kB ts = (hitOf ⟨kA, vs⟩ ts).toList := by
  unfold span
  rw [List.filter_cons_of_pos (by simp [inside, aa, ab])]
  simp only [List.filter_nil, List.filterMap_cons, List.filterMap_nil]
  cases hitOf ⟨kA, vs⟩ ts <;> rfl
theorem span4 : span [⟨kA, [v1, v2]⟩] kA kB 4 = [⟨kA, 3, ⟨#[120]⟩⟩] := by rw [spanA]; rfl
theorem span5 : span [⟨kA, [v1, v2]⟩] kA kB 5 = [] := by rw [spanA]; rfl
theorem new5 : newest [⟨kA, [v1, v2]⟩] kA = 5 := by rw [newA]; rfl
theorem rises1 (k : ByteArray) (vs : List Vn) : Rises [⟨k, vs⟩] := List.pairwise_singleton _ _
theorem full1 : Full [⟨kA, [v1]⟩] := fun r hr => by
  rw [List.mem_singleton.1 hr]
  exact ⟨by simp, fun v hv => by rw [List.mem_singleton.1 hv]; decide⟩
theorem full2 : Full [⟨kA, [v1, v2]⟩] := fun r hr => by
  rw [List.mem_singleton.1 hr]
  refine ⟨by simp, fun v hv => ?_⟩
  rcases List.mem_cons.1 hv with rfl | hv
  · decide
  · rw [List.mem_singleton.1 hv]; decide
set_option maxHeartbeats 4000000 in
set_option maxRecDepth 20000 in
theorem awake_fun : FunV Try.prog 8 #[] (fun _ => True) [] (.bool true) [] := by
  intro w S hS hR
  have HS := St.start hS
  clear hS hR
  have hu39 := Try.underlying39
  have hu34 := Try.underlying34
  go_enter Try.func8, Try.ntmps8
  go_wp2_with fail
  refine (new_fun.call (F := []) HS (fun _ _ _ _ => trivial)).mono ?_
  rintro e_ w1 ⟨r_, rfl, HS_⟩
  clear HS
  obtain ⟨gs, HS_⟩ := St.ex_ HS_
  obtain ⟨hr_, HS⟩ := St.and_ HS_
  subst hr_
  clear HS_
  go_wp2_with fail
  refine ((put_fun gs (.slice none 0 0) [] [] List.Pairwise.nil (fun r hr => by simp at hr) rfl (by decide) (fun r hr => by first | (simp at hr; done) | (rw [List.mem_singleton.1 hr]; decide)) kA v1).call (F := []) HS (fun _ _ _ _ => trivial)).mono ?_
  rintro e_ w2 ⟨r_, rfl, HS_⟩
  clear HS
  obtain ⟨u1, HS_⟩ := St.ex_ HS_
  obtain ⟨us1, HS_⟩ := St.ex_ HS_
  obtain ⟨⟨hr_, Hus1_⟩, HS⟩ := St.and_ HS_
  clear HS_
  rw [put1.1] at hr_
  rw [put1.2] at HS Hus1_
  subst hr_
  have Hus1 := Aside0.mk Hus1_
  clear Hus1_
  go_wp2_with fail
  refine ((put_fun gs u1 [⟨kA, [v1]⟩] us1 (rises1 _ _) full1 Hus1.out (by decide) (fun r hr => by first | (simp at hr; done) | (rw [List.mem_singleton.1 hr]; decide)) kA v2).call (F := []) HS (fun _ _ _ _ => trivial)).mono ?_
  rintro e_ w3 ⟨r_, rfl, HS_⟩
  clear HS
  obtain ⟨u2, HS_⟩ := St.ex_ HS_
  obtain ⟨us2, HS_⟩ := St.ex_ HS_
  obtain ⟨⟨hr_, Hus2_⟩, HS⟩ := St.and_ HS_
  clear HS_
  rw [put2.1] at hr_
  rw [put2.2] at HS Hus2_
  subst hr_
  have Hus2 := Aside0.mk Hus2_
  clear Hus2_
  go_wp2_with fail
  refine ((put_fun gs u2 [⟨kA, [v1, v2]⟩] us2 (rises1 _ _) full2 Hus2.out (by decide) (fun r hr => by first | (simp at hr; done) | (rw [List.mem_singleton.1 hr]; decide)) kA v3).call (F := []) HS (fun _ _ _ _ => trivial)).mono ?_
  rintro e_ w4 ⟨r_, rfl, HS_⟩
  clear HS
  obtain ⟨u3, HS_⟩ := St.ex_ HS_
  obtain ⟨us3, HS_⟩ := St.ex_ HS_
  obtain ⟨⟨hr_, Hus3_⟩, HS⟩ := St.and_ HS_
  clear HS_
  rw [put3.1] at hr_
  rw [put3.2] at HS Hus3_
  subst hr_
  have Hus3 := Aside0.mk Hus3_
  clear Hus3_
  go_wp2_with fail
  refine ((span_fun gs u3 [⟨kA, [v1, v2]⟩] us3 (rises1 _ _) full2 Hus3.out (by decide) kA kB 4).call (F := []) HS (fun _ _ _ _ => trivial)).mono ?_
  rintro e_ w5 ⟨rh, rfl, HS_⟩
  clear HS
  have HS : St w S w5 [HP.row kHt 39 rh (span [⟨kA, [v1, v2]⟩] kA kB 4), storeH gs u3 [⟨kA, [v1, v2]⟩] us3] := HS_
  clear HS_
  rw [span4] at HS
  obtain ⟨gh, ch, ev⟩ := St.row_form HS (by simp)
  subst ev
  have hopen : ∀ {w : World} {x : Ht} {cs : List Value}, kHt.K w x cs → cs = [.string x.key, .int .i64 x.ts, .string x.val] := fun h => kHt_open h
  have c0 : w5.cell? ⟨gh, 0, none⟩ = some (.string ⟨#[97]⟩) := flat_cell (enc := fun x : Ht => [.string x.key, .int .i64 x.ts, .string x.val]) kHt_open HS 0 (by simp) 0 (by simp)
  have c1 : w5.cell? ⟨gh, 1, none⟩ = some (.int .i64 3) := flat_cell (enc := fun x : Ht => [.string x.key, .int .i64 x.ts, .string x.val]) kHt_open HS 0 (by simp) 1 (by simp)
  have c2 : w5.cell? ⟨gh, 2, none⟩ = some (.string ⟨#[120]⟩) := flat_cell (enc := fun x : Ht => [.string x.key, .int .i64 x.ts, .string x.val]) kHt_open HS 0 (by simp) 2 (by simp)
  clear hopen
  go_wp2_with fail
  refine ((span_fun gs u3 [⟨kA, [v1, v2]⟩] us3 (rises1 _ _) full2 Hus3.out (by decide) kA kB 5).call (F := []) (HS.out 0) (fun _ _ _ _ => trivial)).mono ?_
  rintro e_ w6 ⟨rh, rfl, HS_⟩
  clear HS c0 c1 c2
  have HS : St w S w6 [HP.row kHt 39 rh (span [⟨kA, [v1, v2]⟩] kA kB 5), storeH gs u3 [⟨kA, [v1, v2]⟩] us3] := HS_
  clear HS_
  rw [span5] at HS
  obtain ⟨A5, c5, ev, hc5, hC5⟩ := St.row_C HS
  subst ev
  clear hC5 hc5
  go_wp2_with fail
  refine ((newest_fun gs u3 [⟨kA, [v1, v2]⟩] us3 (rises1 _ _) full2 Hus3.out (by decide) kA).call (F := []) (HS.out 0) (fun _ _ _ _ => trivial)).mono ?_
  rintro e_ w7 ⟨rfl, HS_⟩
  clear HS
  rw [new5]
  have HS := HS_
  clear HS_
  go_wp2
  go_ret
  exact ⟨rfl, HS.out 0⟩
end Go.Proofs.Ytepenfgeeggjmaa.Ver
