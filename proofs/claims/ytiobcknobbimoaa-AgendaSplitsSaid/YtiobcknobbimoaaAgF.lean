/- (*queue).Pop, heap.Push, heap.Fix, heap.Remove: walked. -/
import Derived.Test.YtiobcknobbimoaaAgE
namespace Go.Proofs.Ytiobcknobbimoaa.Ag
open Go.RowKit Go.Proofs.YtiobcknobbimoaaW.PrintWords Go.Proofs.YtiobcknobbimoaaW.PrintLast Go.Proofs.YtiobcknobbimoaaW.PrintMore Go.Proofs.Ytiobcknobbimoaa.Sl
set_option linter.unusedVariables false
set_option linter.unusedSimpArgs false
set_option maxHeartbeats 8000000 in
set_option maxRecDepth 20000 in
theorem pop_fun (ga : Nat) (v mp tn : Value) (q : List It) (n : Nat) (hq : q.length = n + 1) (hl : n ≤ 1000000) :
    Fun Try.prog 49 #[.pointer (some ⟨ga, 0, none⟩)] (fun _ => True) [hS ga v mp tn q]
      (fun r => [HP.ex fun v' : Value => HP.and (r = .iface 56 (.pointer (some ⟨(at_ q n).g, 0, none⟩))) (HP.star (hS ga v' mp tn (q.take n)) (itemH n (at_ q n)))]) := by
  intro w S hS_ hR
  have HS := hS_open (St.start hS_)
  clear hS_ hR
  have hu51 := Try.underlying51
  have hu55 := Try.underlying55
  have hu56 := Try.underlying56
  obtain ⟨A, c, rfl, hc, hA⟩ := rowP_form (HS.mv 1)
  obtain ⟨gr, rfl⟩ := hA (by omega)
  clear hA
  have hnl : n < q.length := by omega
  have hnI : (n : Int) < (q.length : Int) := by omega
  have hn0 : (0 : Int) ≤ (n : Int) := by omega
  have hw : IntKind.i64.wrap ((q.length : Int) - 1) = (n : Int) := by rw [IntWalk.i64_in _ (by omega)]; omega
  have hw2 : (q.length : Int) - 1 = (n : Int) := by omega
  have HTA := Aside0.mk (take_at q n hnl hq)
  have q0 : w.cell? ⟨ga, 0, none⟩ = some (.slice (some ⟨gr, 0, none⟩) q.length c) := HS.cell 0
  have q1 : w.frozen? ⟨ga, 0, none⟩ = false := HS.unfrozen 0
  have q2 := (rowP_cell (HS.mv 1) n hnl).1
  obtain ⟨x, hx⟩ : ∃ x, at_ q n = x := ⟨_, rfl⟩
  rw [hx] at q2 HTA
  rw [hx]
  clear hx
  have hncI : (n : Int) ≤ (c : Int) := by omega
  have hs1 : ∀ W : World, (Instr.slice 51 (.slice (some ⟨gr, 0, none⟩) q.length c) none (some (.int .i64 (n : Int))) none).run Try.prog W = .ok (.slice (some ⟨gr, 0, none⟩) n c) W := by
    obtain ⟨ti, hti, hts⟩ := infoPt1
    have := cut_to 51 56 .i64 Try.underlying51 hti (some ⟨gr, 0, none⟩) q.length c (n : Int) hn0 (by omega) hc
    simpa using this
  have H6 := HS.set 0 (.slice (some ⟨gr, 0, none⟩) n c)
  have H7 : St w S (w.setCell ⟨ga, 0, none⟩ (.slice (some ⟨gr, 0, none⟩) n c)) [HP.obj ga 53 [.slice (some ⟨gr, 0, none⟩) n c, mp, tn], rowP (.slice (some ⟨gr, 0, none⟩) q.length c) q, Sl.all (itemsH q)] := H6
  have H8 : St w S (w.setCell ⟨ga, 0, none⟩ (.slice (some ⟨gr, 0, none⟩) n c)) [HP.obj ga 53 [.slice (some ⟨gr, 0, none⟩) n c, mp, tn], rowP (.slice (some ⟨gr, 0, none⟩) n c) (q.take n), Sl.all (itemsH (q.take n)), itemH n x] := by
    have h1 := (H7.mv 1).head (B := rowP (.slice (some ⟨gr, 0, none⟩) n c) (q.take n)) (fun w S a => by
      have := Kd.R_take (m := n) a (by rw [List.length_map]; omega)
      rw [← List.map_take] at this
      exact this)
    have h2 := h1.mv 2
    rw [HTA.out] at h2
    rw [itemsH_snoc] at h2
    have h3 := st_unsnoc h2
    have hlt : (q.take n).length = n := by rw [List.length_take]; omega
    rw [hlt] at h3
    have h4 : (q.take n ++ [x]).take n = q.take n := by rw [← HTA.out]
    rw [h4] at h3
    exact (((h3.mv 1).mv 2).mv 3)
  have HE := Aside0.mk (hS_shut H8)
  clear HS H6 H7 H8 hnl
  go_enter Try.func49, Try.ntmps49
  go_wp2
  go_ret
  exact ⟨_, rfl, St.ex_in (.slice (some ⟨gr, 0, none⟩) n c) (St.and_in rfl (HE.out.unstar))⟩
set_option maxHeartbeats 8000000 in
set_option maxRecDepth 20000 in
theorem heapPush_fun (ga : Nat) (v mp tn : Value) (q : List It) (x : It) (a0 : Int) (hl : q.length ≤ 100000) (hh : HeapN q q.length) :
    Fun Try.prog 22 #[.iface 59 (.pointer (some ⟨ga, 0, none⟩)), .iface 56 (.pointer (some ⟨x.g, 0, none⟩))] (fun _ => True)
      [HP.obj x.g 55 [.int .i64 x.what, .int .i64 x.due, .int .i64 x.turn, .int .i64 a0], hS ga v mp tn q]
      (fun r => [HP.ex fun v' : Value => HP.ex fun q' : List It => HP.and (r = .tuple #[] ∧ q'.Perm (q ++ [x]) ∧ HeapN q' q'.length) (hS ga v' mp tn q')]) := by
  intro w S hS_ hR
  have HS := St.start hS_
  clear hS_ hR
  have hpl : (q ++ [x]).length = q.length + 1 := by simp
  have HUP : Aside0 (UpInv (q ++ [x]) q.length (q.length + 1)) := ⟨⟨fun k h0 hk hkj => by
    have h1 := hh k h0 (by omega)
    have e : ∀ m, m < q.length → at_ (q ++ [x]) m = at_ q m := fun m hm => by simp [at_, List.getD_eq_getElem?_getD, List.getElem?_append_left hm]
    unfold Edge at h1 ⊢
    rw [e k (by omega), e ((k - 1) / 2) (by omega)]
    exact h1, fun c h0 hc hcj hj0 => by omega⟩⟩
  clear hh
  have hm := m_push ⟨ga, 0, none⟩ w
  go_enter Try.func22, Try.ntmps22
  go_wp2_with fail
  refine ((push_fun ga v mp tn q x a0 (by omega)).call (F := []) HS (fun _ _ _ _ => trivial)).mono ?_
  rintro e_ w1 ⟨r, rfl, HS_⟩
  obtain ⟨v1, HS1⟩ := St.ex_ HS_
  obtain ⟨hr, HS2⟩ := St.and_ HS1
  subst hr
  clear HS HS_ HS1 hm
  have HS : St w S w1 [hS ga v1 mp tn (q ++ [x])] := HS2
  clear HS2
  obtain ⟨A, c, rfl, hc⟩ := hS_slice HS
  rw [hpl] at hc HS
  have hm := m_len ga w1 _ (hS_cell HS)
  go_wp2_with fail
  refine (len_fun A (q.length + 1) c w1).mono ?_
  rintro e_ w2 ⟨rfl, rfl⟩
  have hd : ((q.length + 1 : Nat) : Int) - 1 = (q.length : Int) := by omega
  clear hm
  go_wp2_with fail
  refine ((up_fun ga (.slice A (q.length + 1) c) mp tn (q ++ [x]) (q.length + 1) q.length (by omega) (by omega) (by omega) HUP.out).call (F := []) HS (fun _ _ _ _ => trivial)).mono ?_
  rintro e_ w3 ⟨r, rfl, HS_⟩
  obtain ⟨q', HS1⟩ := St.ex_ HS_
  obtain ⟨⟨hr, hp, hh, -⟩, HS2⟩ := St.and_ HS1
  subst hr
  have hl2 : q'.length = q.length + 1 := by rw [hp.length_eq, hpl]
  rw [← hl2] at hh
  have HF := Aside0.mk (And.intro hp hh)
  clear HS HS_ HS1 hp hh hl2
  go_wp2
  go_end0
  exact ⟨_, rfl, St.ex_in _ (St.ex_in q' (St.and_in ⟨rfl, HF.out.1, HF.out.2⟩ HS2))⟩
end Go.Proofs.Ytiobcknobbimoaa.Ag
