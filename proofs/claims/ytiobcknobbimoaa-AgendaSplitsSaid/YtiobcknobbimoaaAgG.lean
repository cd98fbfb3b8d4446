/- heap.Fix, heap.Remove: walked. -/
import Derived.Test.YtiobcknobbimoaaAgF
namespace Go.Proofs.Ytiobcknobbimoaa.Ag
open Go.RowKit Go.Proofs.YtiobcknobbimoaaW.PrintWords Go.Proofs.YtiobcknobbimoaaW.PrintLast Go.Proofs.YtiobcknobbimoaaW.PrintMore Go.Proofs.Ytiobcknobbimoaa.Sl
set_option linter.unusedVariables false
set_option linter.unusedSimpArgs false
/-- A heap in which one thing is another one. -/
theorem down_of {q q' : List It} {i n : Nat} (hh : HeapN q n) (h : ∀ k, k < n → k ≠ i → at_ q' k = at_ q k) : DownInv q' i i n := by
  refine ⟨fun k h0 hk hki hk2 => ?_, fun c h0 hc hci hi0 => ?_, Nat.le_refl _⟩
  · have h1 := hh k h0 hk
    unfold Edge at h1 ⊢
    rw [h k hk (fun e => hk2 ⟨e, rfl⟩), h ((k - 1) / 2) (by omega) hki]
    exact h1
  · have h1 := hh c h0 hc
    have h2 := hh i hi0 (by omega)
    unfold Edge at h1 h2
    rw [h c hc (by omega), h ((i - 1) / 2) (by omega) (by omega)]
    rw [hci] at h1
    exact nlt_trans h2 h1
set_option maxHeartbeats 8000000 in
set_option maxRecDepth 20000 in
theorem fix_fun (ga : Nat) (v mp tn : Value) (q : List It) (i : Nat) (hi : i < q.length) (hl : q.length ≤ 100000) (hu : DownInv q i i q.length) :
    Fun Try.prog 23 #[.iface 59 (.pointer (some ⟨ga, 0, none⟩)), .int .i64 i] (fun _ => True) [hS ga v mp tn q]
      (fun r => [HP.ex fun q' : List It => HP.and (r = .tuple #[] ∧ q'.Perm q ∧ HeapN q' q'.length) (hS ga v mp tn q')]) := by
  intro w S hS_ hR
  have HS := St.start hS_
  clear hS_ hR
  obtain ⟨A, c, rfl, hc⟩ := hS_slice HS
  have HU := Aside0.mk hu
  clear hu
  have hm := m_len ga w _ (hS_cell HS)
  go_enter Try.func23, Try.ntmps23
  go_wp2_with fail
  refine (len_fun A q.length c w).mono ?_
  rintro e_ w2 ⟨rfl, rfl⟩
  clear hm
  go_wp2_with fail
  refine ((down_fun ga (.slice A q.length c) mp tn q q.length i (Nat.le_refl _) (by omega) (by omega) HU.out).call (F := []) HS (fun _ _ _ _ => trivial)).mono ?_
  rintro e_ w3 ⟨r, rfl, HS_⟩
  obtain ⟨q1, HS1⟩ := St.ex_ HS_
  obtain ⟨b, HS2⟩ := St.ex_ HS1
  obtain ⟨⟨hr, hd⟩, HS3⟩ := St.and_ HS2
  subst hr
  have HD := Aside0.mk hd
  have HSN : St w2 S w3 [hS ga (.slice A q.length c) mp tn q1] := HS3
  clear HS HS_ HS1 HS2 HS3 hd
  have hl1 : q1.length = q.length := HD.out.perm.length_eq
  cases b
  · go_wp2_with fail
    refine ((up_fun ga (.slice A q.length c) mp tn q1 q.length i (by omega) hi (by omega) (HD.out.no rfl)).call (F := []) HSN (fun _ _ _ _ => trivial)).mono ?_
    rintro e_ w4 ⟨r, rfl, HS_⟩
    obtain ⟨q', HS1⟩ := St.ex_ HS_
    obtain ⟨⟨hr, hp, hh, -⟩, HS2⟩ := St.and_ HS1
    subst hr
    have hl2 : q'.length = q.length := by rw [hp.length_eq, hl1]
    rw [← hl2] at hh
    have HF := Aside0.mk (And.intro (hp.trans HD.out.perm) hh)
    clear HSN HS_ HS1 hp hh hl2
    go_wp2
    go_end0
    exact ⟨_, rfl, St.ex_in q' (St.and_in ⟨rfl, HF.out.1, HF.out.2⟩ HS2)⟩
  · have hh := HD.out.yes rfl
    rw [← hl1] at hh
    have HF := Aside0.mk hh
    clear hh
    go_wp2
    go_end0
    exact ⟨_, rfl, St.ex_in q1 (St.and_in ⟨rfl, HD.out.perm, HF.out⟩ HSN)⟩
/-- What is left when the last is taken. -/
theorem rest_perm {q q2 : List It} {i n : Nat} (hq : q.length = n + 1) (hi : i < q.length) (hp : q2.Perm q) (hx : at_ q2 n = at_ q i) : (q2.take n).Perm (q.eraseIdx i) := by
  have hl2 : q2.length = n + 1 := by rw [hp.length_eq, hq]
  have h1 := take_at q2 n (by omega) hl2
  rw [hx, at_get q i hi] at h1
  have h2 : (q[i] :: q2.take n).Perm q := by
    have : (q2.take n ++ [q[i]]).Perm q := by rw [← h1]; exact hp
    exact (List.perm_append_comm (l₁ := [q[i]])).trans this
  exact List.Perm.cons_inv (h2.trans (perm_front q i hi))
theorem heap_take {q : List It} {n : Nat} (h : HeapN q n) : HeapN (q.take n) n := by
  intro k h0 hk
  have := h k h0 hk
  unfold Edge at this ⊢
  rw [at_take q n k hk, at_take q n ((k - 1) / 2) (by omega)]
  exact this
set_option maxHeartbeats 8000000 in
set_option maxRecDepth 20000 in
theorem remove_fun (ga : Nat) (v mp tn : Value) (q : List It) (n i : Nat) (hq : q.length = n + 1) (hi : i < q.length) (hl : q.length ≤ 100000) (hh : HeapN q q.length) :
    Fun Try.prog 24 #[.iface 59 (.pointer (some ⟨ga, 0, none⟩)), .int .i64 i] (fun _ => True) [hS ga v mp tn q]
      (fun r => [HP.ex fun v' : Value => HP.ex fun q' : List It => HP.and (r = .iface 56 (.pointer (some ⟨(at_ q i).g, 0, none⟩)) ∧ q'.Perm (q.eraseIdx i) ∧ HeapN q' q'.length) (HP.star (hS ga v' mp tn q') (itemH n (at_ q i)))]) := by
  intro w S hS_ hR
  have HS := St.start hS_
  clear hS_ hR
  obtain ⟨A, c, rfl, hc⟩ := hS_slice HS
  have HH := Aside0.mk hh
  have HQ := Aside0.mk hq
  have hq1 : n + 1 ≤ q.length := by omega
  have hq2 : q.length ≤ n + 1 := by omega
  clear hh hq
  have hm := m_len ga w _ (hS_cell HS)
  have hw2 : (q.length : Int) - 1 = (n : Int) := by omega
  go_enter Try.func24, Try.ntmps24
  go_wp2_with fail
  refine (len_fun A q.length c w).mono ?_
  rintro e_ w2 ⟨rfl, rfl⟩
  clear hm
  by_cases hni : n = i
  · subst hni
    have hni1 : ((n : Int) == (n : Int)) = true := beq_iff_eq.2 rfl
    have HP0 := Aside0.mk (rest_perm HQ.out hi (List.Perm.refl q) rfl)
    have hlt : (q.take n).length = n := by rw [List.length_take]; omega
    have HH2 : Aside0 (HeapN (q.take n) (q.take n).length) := ⟨by rw [hlt]; exact heap_take (fun k h0 hk => HH.out k h0 (by omega))⟩
    have hm := m_pop ⟨ga, 0, none⟩ w2
    go_wp2_with fail
    refine ((pop_fun ga (.slice A q.length c) mp tn q n HQ.out (by omega)).call (F := []) HS (fun _ _ _ _ => trivial)).mono ?_
    rintro e_ w3 ⟨r, rfl, HS_⟩
    obtain ⟨v', HS1⟩ := St.ex_ HS_
    obtain ⟨hr, HS2⟩ := St.and_ HS1
    subst hr
    clear HS HS_ HS1 hm
    go_wp2
    go_ret
    exact ⟨_, rfl, St.ex_in v' (St.ex_in (q.take n) (St.and_in ⟨rfl, HP0.out, HH2.out⟩ HS2))⟩
  · have hni1 : ((n : Int) == (i : Int)) = false := beq_eq_false_iff_ne.2 (by omega)
    have hni2 : (n == i) = false := beq_eq_false_iff_ne.2 hni
    have hnl : n < q.length := by omega
    have hin : i ≠ n := fun e => hni e.symm
    have hm := m_swap ga w2 _ (hS_cell HS)
    have HDI : Aside0 (DownInv (swapL q i n) i i n) := ⟨down_of (n := n) (fun k h0 hk => HH.out k h0 (by omega)) (fun k hk hki => by rw [at_swap q i n k hi hnl, if_neg (by omega), if_neg hki])⟩
    have HPS := Aside0.mk (swapL_perm q i n hi hnl hin)
    have HAN : Aside0 (at_ (swapL q i n) n = at_ q i) := ⟨by rw [at_swap q i n n hi hnl, if_pos rfl]⟩
    have hsl := swapL_length q i n
    have hile : i ≤ n := by omega
    have hiltn : i < n := by omega
    clear hni
    go_wp2_with fail
    refine ((swapS ga (.slice A q.length c) mp tn q i n hi hnl hin).call (F := []) HS (fun _ _ _ _ => trivial)).mono ?_
    rintro e_ w3 ⟨rfl, HS_⟩
    clear HS hm
    have HS : St w2 S w3 [hS ga (.slice A q.length c) mp tn (swapL q i n)] := HS_
    clear HS_
    obtain ⟨qs, hqs⟩ : ∃ qs, swapL q i n = qs := ⟨_, rfl⟩
    rw [hqs] at HS HDI HPS HAN hsl
    clear hqs
    go_wp2_with fail
    refine ((down_fun ga (.slice A q.length c) mp tn qs n i (by omega) (by omega) hile HDI.out).call (F := []) HS (fun _ _ _ _ => trivial)).mono ?_
    rintro e_ w4 ⟨r, rfl, HS_⟩
    obtain ⟨q1, HS1⟩ := St.ex_ HS_
    obtain ⟨b, HS2⟩ := St.ex_ HS1
    obtain ⟨⟨hr, hd⟩, HS3⟩ := St.and_ HS2
    subst hr
    have HD := Aside0.mk hd
    have HSN : St w2 S w4 [hS ga (.slice A q.length c) mp tn q1] := HS3
    clear HS HS_ HS1 HS2 HS3 hd
    have hl1 : q1.length = q.length := by rw [HD.out.perm.length_eq, hsl]
    have HA1 : Aside0 (at_ q1 n = at_ q i) := ⟨by rw [HD.out.rest n (Nat.le_refl _), HAN.out]⟩
    cases b
    · go_wp2_with fail
      refine ((up_fun ga (.slice A q.length c) mp tn q1 n i (by omega) hiltn (by omega) (HD.out.no rfl)).call (F := []) HSN (fun _ _ _ _ => trivial)).mono ?_
      rintro e_ w5 ⟨r, rfl, HS_⟩
      obtain ⟨q2, HS1⟩ := St.ex_ HS_
      obtain ⟨⟨hr, hp, hh, hre⟩, HS2⟩ := St.and_ HS1
      subst hr
      have hl2 : q2.length = n + 1 := by rw [hp.length_eq, hl1, HQ.out]
      have ha2 : at_ q2 n = at_ q i := by rw [hre n hiltn, HA1.out]
      have HP0 := Aside0.mk (rest_perm HQ.out hi (hp.trans (HD.out.perm.trans HPS.out)) ha2)
      have hlt : (q2.take n).length = n := by rw [List.length_take]; omega
      have HH2 : Aside0 (HeapN (q2.take n) (q2.take n).length) := ⟨by rw [hlt]; exact heap_take hh⟩
      have HSM : St w2 S w5 [hS ga (.slice A q.length c) mp tn q2] := HS2
      have HA2 := Aside0.mk ha2
      clear HSN HS_ HS1 HS2 hp hh hre ha2 hlt
      have hm := m_pop ⟨ga, 0, none⟩ w5
      go_wp2_with fail
      refine ((pop_fun ga (.slice A q.length c) mp tn q2 n hl2 (by omega)).call (F := []) HSM (fun _ _ _ _ => trivial)).mono ?_
      rintro e_ w6 ⟨r, rfl, HS_⟩
      obtain ⟨v', HS1⟩ := St.ex_ HS_
      obtain ⟨hr, HS2⟩ := St.and_ HS1
      subst hr
      rw [HA2.out] at HS2
      rw [HA2.out]
      clear HSM HS_ HS1 hm
      go_wp2
      go_ret
      exact ⟨_, rfl, St.ex_in v' (St.ex_in (q2.take n) (St.and_in ⟨rfl, HP0.out, HH2.out⟩ HS2))⟩
    · have hh := HD.out.yes rfl
      have HP0 := Aside0.mk (rest_perm HQ.out hi (HD.out.perm.trans HPS.out) HA1.out)
      have hlt : (q1.take n).length = n := by rw [List.length_take]; omega
      have HH2 : Aside0 (HeapN (q1.take n) (q1.take n).length) := ⟨by rw [hlt]; exact heap_take hh⟩
      clear hh hlt
      have hm := m_pop ⟨ga, 0, none⟩ w4
      go_wp2_with fail
      refine ((pop_fun ga (.slice A q.length c) mp tn q1 n (by omega) (by omega)).call (F := []) HSN (fun _ _ _ _ => trivial)).mono ?_
      rintro e_ w6 ⟨r, rfl, HS_⟩
      obtain ⟨v', HS1⟩ := St.ex_ HS_
      obtain ⟨hr, HS2⟩ := St.and_ HS1
      subst hr
      rw [HA1.out] at HS2
      rw [HA1.out]
      clear HSN HS_ HS1 hm
      go_wp2
      go_ret
      exact ⟨_, rfl, St.ex_in v' (St.ex_in (q1.take n) (St.and_in ⟨rfl, HP0.out, HH2.out⟩ HS2))⟩
end Go.Proofs.Ytiobcknobbimoaa.Ag
