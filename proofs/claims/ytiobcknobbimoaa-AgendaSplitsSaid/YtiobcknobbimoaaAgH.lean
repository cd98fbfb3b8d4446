/- container/heap's up, down: walked. -/
import Derived.Test.YtiobcknobbimoaaAgS
namespace Go.Proofs.Ytiobcknobbimoaa.Ag
open Go.RowKit Go.Proofs.YtiobcknobbimoaaW.PrintWords Go.Proofs.YtiobcknobbimoaaW.PrintLast Go.Proofs.YtiobcknobbimoaaW.PrintMore Go.Proofs.Ytiobcknobbimoaa.Sl
set_option linter.unusedVariables false
set_option linter.unusedSimpArgs false
/-- A queue, as the agenda's first field. -/
def hS (ga : Nat) (v mp tn : Value) (q : List It) : HP := Sl.all [HP.obj ga 53 [v, mp, tn], rowP v q, Sl.all (itemsH q)]
theorem hS_open {w0 w : World} {S0 : Nat → Prop} {F : List HP} {ga : Nat} {v mp tn : Value} {q : List It} (h : St w0 S0 w (hS ga v mp tn q :: F)) : St w0 S0 w (HP.obj ga 53 [v, mp, tn] :: rowP v q :: Sl.all (itemsH q) :: F) := h.all_
theorem hS_shut {w0 w : World} {S0 : Nat → Prop} {F : List HP} {ga : Nat} {v mp tn : Value} {q : List It} (h : St w0 S0 w (HP.obj ga 53 [v, mp, tn] :: rowP v q :: Sl.all (itemsH q) :: F)) : St w0 S0 w (hS ga v mp tn q :: F) := St.unall (L := [_, _, _]) h
theorem hS_cell {w0 w : World} {S0 : Nat → Prop} {F : List HP} {ga : Nat} {v mp tn : Value} {q : List It} (h : St w0 S0 w (hS ga v mp tn q :: F)) : w.cell? ⟨ga, 0, none⟩ = some v := (hS_open h).cell 0
/-- Less and Swap over it. -/
theorem lessS (ga : Nat) (v mp tn : Value) (q : List It) (i j : Nat) (hi : i < q.length) (hj : j < q.length) :
    FunV Try.prog 44 #[v, .int .i64 i, .int .i64 j] (fun _ => True) [hS ga v mp tn q] (.bool (decide (LtI (at_ q i) (at_ q j)))) [hS ga v mp tn q] := by
  intro w S hS_ hR
  have HS := hS_open (St.start hS_)
  refine ((less_fun v q i j hi hj).call (F := [HP.obj ga 53 [v, mp, tn]]) ((HS.mv 2).mv 2) (fun _ _ _ _ => trivial)).mono ?_
  rintro e w1 ⟨he, H1⟩
  exact ⟨he, hS_shut (H1.mv 2)⟩
theorem swapS (ga : Nat) (v mp tn : Value) (q : List It) (i j : Nat) (hi : i < q.length) (hj : j < q.length) (hne : i ≠ j) :
    FunV Try.prog 45 #[v, .int .i64 i, .int .i64 j] (fun _ => True) [hS ga v mp tn q] (.tuple #[]) [hS ga v mp tn (swapL q i j)] := by
  intro w S hS_ hR
  have HS := hS_open (St.start hS_)
  refine ((swap_fun v q i j hi hj hne).call (F := [HP.obj ga 53 [v, mp, tn]]) ((HS.mv 2).mv 2) (fun _ _ _ _ => trivial)).mono ?_
  rintro e w1 ⟨he, H1⟩
  exact ⟨he, hS_shut (H1.mv 2)⟩
theorem hS_slice {w0 w : World} {S0 : Nat → Prop} {F : List HP} {ga : Nat} {v mp tn : Value} {q : List It} (h : St w0 S0 w (hS ga v mp tn q :: F)) : ∃ A c, v = .slice A q.length c ∧ q.length ≤ c := by
  obtain ⟨A, c, h1, h2, _⟩ := rowP_form ((hS_open h).mv 1)
  exact ⟨A, c, h1, h2⟩
def hI (ga : Nat) : Value := .iface 59 (.pointer (some ⟨ga, 0, none⟩))
set_option maxHeartbeats 8000000 in
set_option maxRecDepth 20000 in
theorem up_fun (ga : Nat) (v mp tn : Value) (q : List It) (n j : Nat) (hn : n ≤ q.length) (hj : j < n) (hnl : n ≤ 1000000) (hu : UpInv q j n) :
    Fun Try.prog 25 #[.iface 59 (.pointer (some ⟨ga, 0, none⟩)), .int .i64 j] (fun _ => True) [hS ga v mp tn q]
      (fun r => [HP.ex fun q' : List It => HP.and (r = .tuple #[] ∧ q'.Perm q ∧ HeapN q' n ∧ ∀ k, j < k → at_ q' k = at_ q k) (hS ga v mp tn q')]) := by
  intro w S hS_ hR
  have HS := St.start hS_
  clear hS_ hR
  have HU := Aside0.mk hu
  clear hu
  go_enter Try.func25, Try.ntmps25
  go_wp2_with fail
  go_loopw [1] (fun v1 w' => ∃ (jj : Nat) (q' : List It), jj ≤ j ∧ v1 = .int .i64 jj ∧ Aside0 (UpInv q' jj n ∧ q'.Perm q ∧ ∀ k, j < k → at_ q' k = at_ q k) ∧ St w S w' [hS ga v mp tn q']) (fun v1 _ => (intOf v1).toNat)
  case atStart => exact ⟨j, q, Nat.le_refl _, rfl, ⟨HU.out, List.Perm.refl _, fun _ _ => rfl⟩, HS⟩
  case round =>
    clear HS
    obtain ⟨jj, q', hjj, rfl, HI, HS⟩ := hrel
    rcases Nat.eq_zero_or_pos jj with hz | hz
    · subst hz
      have HD := Aside0.mk (up_done HI.out.1 (.inl rfl))
      go_wp2
      go_end0
      exact ⟨_, rfl, St.ex_in q' (St.and_in ⟨rfl, HI.out.2.1, HD.out, HI.out.2.2⟩ HS)⟩
    · obtain ⟨p, hp⟩ : ∃ p, (jj - 1) / 2 = p := ⟨_, rfl⟩
      have hd : ((jj : Int) - 1).tdiv 2 = (p : Int) := by rw [Int.tdiv_eq_ediv_of_nonneg (by omega)]; omega
      have hb1 : ((p : Int) == (jj : Int)) = false := beq_eq_false_iff_ne.2 (by omega)
      have hb2 : (p == jj) = false := beq_eq_false_iff_ne.2 (by omega)
      have hql : q'.length = q.length := HI.out.2.1.length_eq
      have hjl : jj < q'.length := by omega
      have hpl : p < q'.length := by omega
      have hpj : p ≠ jj := by omega
      have hpn : p < n := by omega
      have hple : p ≤ j := by omega
      have hplt : p < jj := by omega
      have HST := Aside0.mk (fun hlt : LtI (at_ q' jj) (at_ q' p) => up_step HI.out.1 (by rw [hql]; exact hn) hz (by omega) (by rw [hp]; exact hlt))
      have HDN := Aside0.mk (fun hlt : ¬ LtI (at_ q' jj) (at_ q' p) => up_done HI.out.1 (.inr (by unfold Edge; rw [hp]; exact hlt)))
      rw [hp] at HST
      have hm := m_less ga wr v (hS_cell HS)
      clear hp hql
      go_wp2_with fail
      refine ((lessS ga v mp tn q' jj p hjl hpl).call (F := []) HS (fun _ _ _ _ => trivial)).mono ?_
      rintro e_ w2 ⟨rfl, HS_⟩
      clear HS hm
      have HS : St w S w2 [hS ga v mp tn q'] := HS_
      clear HS_
      by_cases hlt : LtI (at_ q' jj) (at_ q' p)
      · have hlb : decide (LtI (at_ q' jj) (at_ q' p)) = true := decide_eq_true hlt
        have HI2 : Aside0 (UpInv (swapL q' p jj) p n ∧ (swapL q' p jj).Perm q ∧ ∀ k, j < k → at_ (swapL q' p jj) k = at_ q k) := ⟨⟨HST.out hlt, (swapL_perm q' p jj hpl hjl hpj).trans HI.out.2.1, fun k hk => by
          rw [at_swap q' p jj k hpl hjl, if_neg (by omega), if_neg (by omega)]
          exact HI.out.2.2 k hk⟩⟩
        have hm := m_swap ga w2 v (hS_cell HS)
        clear hlt
        go_wp2_with fail
        refine ((swapS ga v mp tn q' p jj hpl hjl hpj).call (F := []) HS (fun _ _ _ _ => trivial)).mono ?_
        rintro e_ w3 ⟨rfl, HS_⟩
        clear HS hm
        have HS : St w S w3 [hS ga v mp tn (swapL q' p jj)] := HS_
        clear HS_
        go_wp2
        go_roundw
        case rel => exact ⟨p, swapL q' p jj, hple, by go_num, HI2, HS⟩
        case measure => simp [intOf]; omega
      · have hlb : decide (LtI (at_ q' jj) (at_ q' p)) = false := decide_eq_false hlt
        have HD := Aside0.mk (HDN.out hlt)
        clear hlt
        go_wp2
        go_end0
        exact ⟨_, rfl, St.ex_in q' (St.and_in ⟨rfl, HI.out.2.1, HD.out, HI.out.2.2⟩ HS)⟩
end Go.Proofs.Ytiobcknobbimoaa.Ag
