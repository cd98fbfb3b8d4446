/- container/heap's down: walked. -/
import Derived.Test.YtiobcknobbimoaaAgH
namespace Go.Proofs.Ytiobcknobbimoaa.Ag
open Go.RowKit Go.Proofs.YtiobcknobbimoaaW.PrintWords Go.Proofs.YtiobcknobbimoaaW.PrintLast Go.Proofs.YtiobcknobbimoaaW.PrintMore Go.Proofs.Ytiobcknobbimoaa.Sl
set_option linter.unusedVariables false
set_option linter.unusedSimpArgs false
def Least (q : List It) (n i j : Nat) : Prop := j < n ∧ 0 < j ∧ (j - 1) / 2 = i ∧ ∀ c, 0 < c → c < n → (c - 1) / 2 = i → ¬ LtI (at_ q c) (at_ q j)
def Tells (b : Bool) (p : Prop) : Prop := b = true ↔ p
theorem tells_yes {p : Prop} (h : p) : Tells true p := ⟨fun _ => h, fun _ => rfl⟩
theorem tells_no {p : Prop} (h : ¬ p) : Tells false p := ⟨fun e => (by cases e), fun e => absurd e h⟩
/-- What down leaves. -/
structure Down (q' q : List It) (b : Bool) (i0 n : Nat) : Prop where
  perm : q'.Perm q
  yes : b = true → HeapN q' n
  no : b = false → UpInv q' i0 n
  rest : ∀ k, n ≤ k → at_ q' k = at_ q k
theorem down_end {q' q : List It} {i i0 n : Nat} (h : DownInv q' i i0 n) (hp : q'.Perm q) (hr : ∀ k, n ≤ k → at_ q' k = at_ q k) (hd : ∀ c, 0 < c → c < n → (c - 1) / 2 = i → Edge q' c) : Down q' q (decide ((i : Int) > (i0 : Int))) i0 n := by
  have h1 := down_done h hd
  refine ⟨hp, fun e => h1.2 (by have := of_decide_eq_true e; omega), fun e => h1.1 (by have := of_decide_eq_false e; have := h.le; omega), hr⟩
set_option maxHeartbeats 8000000 in
set_option maxRecDepth 20000 in
theorem down_fun (ga : Nat) (v mp tn : Value) (q : List It) (n i0 : Nat) (hn : n ≤ q.length) (hnl : n ≤ 1000000) (hi0 : i0 ≤ n) (hu : DownInv q i0 i0 n) :
    Fun Try.prog 26 #[.iface 59 (.pointer (some ⟨ga, 0, none⟩)), .int .i64 i0, .int .i64 n] (fun _ => True) [hS ga v mp tn q]
      (fun r => [HP.ex fun q' : List It => HP.ex fun b : Bool => HP.and (r = .bool b ∧ Down q' q b i0 n) (hS ga v mp tn q')]) := by
  intro w S hS_ hR
  have HS := St.start hS_
  clear hS_ hR
  have HU := Aside0.mk hu
  clear hu
  go_enter Try.func26, Try.ntmps26
  go_wp2_with fail
  go_loopw [7] (fun v7 w' => ∃ (i : Nat) (q' : List It), i ≤ n ∧ v7 = .int .i64 i ∧ Aside0 (DownInv q' i i0 n ∧ q'.Perm q ∧ ∀ k, n ≤ k → at_ q' k = at_ q k) ∧ St w S w' [hS ga v mp tn q']) (fun v7 _ => n - (intOf v7).toNat)
  case atStart => exact ⟨i0, q, hi0, rfl, ⟨HU.out, List.Perm.refl _, fun _ _ => rfl⟩, HS⟩
  case round =>
    clear HS
    obtain ⟨i, q', hi, rfl, HI, HS⟩ := hrel
    have hile := HI.out.1.le
    obtain ⟨c1, hc1⟩ : ∃ c1, c1 = 2 * i + 1 := ⟨_, rfl⟩
    have hd1 : 2 * (i : Int) + 1 = (c1 : Int) := by omega
    have hc10 : (0 : Int) ≤ (c1 : Int) := by omega
    have HC1 := Aside0.mk hc1
    have hib : i ≤ 1000000 := by omega
    have hcb : c1 ≤ 2000001 := by omega
    clear hc1
    rcases Nat.lt_or_ge c1 n with hlt | hge
    · have hgd : decide ((c1 : Int) ≥ (n : Int)) = false := decide_eq_false (by omega)
      have hql : q'.length = q.length := HI.out.2.1.length_eq
      have h1l : c1 < q'.length := by omega
      have hil : i < q'.length := by have := HC1.out; omega
      obtain ⟨c2, hc2⟩ : ∃ c2, c2 = c1 + 1 := ⟨_, rfl⟩
      have hd2 : (c1 : Int) + 1 = (c2 : Int) := by omega
      have HC2 := Aside0.mk hc2
      clear hc2 hql
      go_upto_region 6 with (fail)
      go_cut [33] (fun v33 wc => ∃ b : Bool, v33 = .bool b ∧ Aside0 (Tells b (c2 < n ∧ LtI (at_ q' c2) (at_ q' c1))) ∧ St w S wc [hS ga v mp tn q'])
      case first =>
        rcases Nat.lt_or_ge c2 n with h2 | h2
        · have h2d : decide ((c2 : Int) < (n : Int)) = true := decide_eq_true (by omega)
          have h2l : c2 < q'.length := by have := HI.out.2.1.length_eq; omega
          have hm := m_less ga _ v (hS_cell HS)
          go_wp2_with fail
          refine ((lessS ga v mp tn q' c2 c1 h2l h1l).call (F := []) HS (fun _ _ _ _ => trivial)).mono ?_
          rintro e_ w2 ⟨rfl, HS_⟩
          clear HS hm
          have HS : St w S w2 [hS ga v mp tn q'] := HS_
          clear HS_
          by_cases hlt2 : LtI (at_ q' c2) (at_ q' c1)
          · have HB : Aside0 (Tells true (c2 < n ∧ LtI (at_ q' c2) (at_ q' c1))) := ⟨tells_yes ⟨h2, hlt2⟩⟩
            have hlb : decide (LtI (at_ q' c2) (at_ q' c1)) = true := decide_eq_true hlt2
            rw [hlb]
            clear hlt2 hlb
            go_wp2
            go_meet
            exact ⟨true, by first | rfl | simp, HB, HS⟩
          · have HB : Aside0 (Tells false (c2 < n ∧ LtI (at_ q' c2) (at_ q' c1))) := ⟨tells_no (fun h => hlt2 h.2)⟩
            have hlb : decide (LtI (at_ q' c2) (at_ q' c1)) = false := decide_eq_false hlt2
            rw [hlb]
            clear hlt2 hlb
            go_wp2
            go_meet
            exact ⟨false, by first | rfl | simp, HB, HS⟩
        · have h2d : decide ((c2 : Int) < (n : Int)) = false := decide_eq_false (by omega)
          have HB : Aside0 (Tells false (c2 < n ∧ LtI (at_ q' c2) (at_ q' c1))) := ⟨tells_no (fun h => by omega)⟩
          go_wp2
          go_meet
          exact ⟨false, by first | rfl | simp, HB, HS⟩
      case rest =>
      clear HS
      obtain ⟨b, rfl, HB, HS⟩ := hcut
      go_upto_if 33 with (fail)
      go_cut [9] (fun v9 wc => ∃ j : Nat, v9 = .int .i64 j ∧ Aside0 (Least q' n i j) ∧ St w S wc [hS ga v mp tn q'])
      case first =>
        cases b
        · have HL : Aside0 (Least q' n i c1) := ⟨by
            have e1 := HC1.out
            have e2 := HC2.out
            refine ⟨hlt, by omega, by omega, fun c h0 hc hci => ?_⟩
            have : c = c1 ∨ c = c2 := by omega
            rcases this with rfl | rfl
            · exact nlt_self _
            · intro h
              have := HB.out.2 ⟨hc, h⟩
              cases this⟩
          clear HB
          go_wp2
          go_meet
          exact ⟨c1, rfl, HL, HS⟩
        · have HL : Aside0 (Least q' n i c2) := ⟨by
            have e1 := HC1.out
            have e2 := HC2.out
            have hb := HB.out.1 rfl
            refine ⟨hb.1, by omega, by omega, fun c h0 hc hci => ?_⟩
            have : c = c1 ∨ c = c2 := by omega
            rcases this with rfl | rfl
            · exact lt_nlt hb.2
            · exact nlt_self _⟩
          clear HB
          go_wp2
          go_meet
          exact ⟨c2, rfl, HL, HS⟩
      case rest =>
      clear HS HB
      obtain ⟨j, rfl, HL, HS⟩ := hcut
      have hjl : j < q'.length := by have := HI.out.2.1.length_eq; have := HL.out.1; omega
      have hij : i ≠ j := by have := HL.out.2.1; have := HL.out.2.2.1; omega
      have hjn : j ≤ n := by have := HL.out.1; omega
      have hilt : i < j := by have := HL.out.2.1; have := HL.out.2.2.1; omega
      have hm := m_less ga wc v (hS_cell HS)
      go_wp2_with fail
      refine ((lessS ga v mp tn q' j i hjl hil).call (F := []) HS (fun _ _ _ _ => trivial)).mono ?_
      rintro e_ w3 ⟨rfl, HS_⟩
      clear HS hm
      have HS : St w S w3 [hS ga v mp tn q'] := HS_
      clear HS_
      by_cases hlt2 : LtI (at_ q' j) (at_ q' i)
      · have HI2 : Aside0 (DownInv (swapL q' i j) j i0 n ∧ (swapL q' i j).Perm q ∧ ∀ k, n ≤ k → at_ (swapL q' i j) k = at_ q k) := ⟨⟨down_step HI.out.1 (by have := HI.out.2.1.length_eq; omega) HL.out.1 HL.out.2.1 HL.out.2.2.1 hlt2 HL.out.2.2.2, (swapL_perm q' i j hil hjl hij).trans HI.out.2.1, fun k hk => by
          have := HL.out.1
          rw [at_swap q' i j k hil hjl, if_neg (by omega), if_neg (by omega)]
          exact HI.out.2.2 k hk⟩⟩
        have hlb : decide (LtI (at_ q' j) (at_ q' i)) = true := decide_eq_true hlt2
        rw [hlb]
        have hm := m_swap ga w3 v (hS_cell HS)
        clear hlt2 hlb
        go_wp2_with fail
        refine ((swapS ga v mp tn q' i j hil hjl hij).call (F := []) HS (fun _ _ _ _ => trivial)).mono ?_
        rintro e_ w4 ⟨rfl, HS_⟩
        clear HS hm
        have HS : St w S w4 [hS ga v mp tn (swapL q' i j)] := HS_
        clear HS_
        go_wp2
        go_roundw
        case rel => exact ⟨j, swapL q' i j, hjn, by go_num, HI2, HS⟩
        case measure => simp [intOf]; omega
      · have HD := Aside0.mk (down_end HI.out.1 HI.out.2.1 HI.out.2.2 (fun c h0 hc hci => by
          unfold Edge
          rw [hci]
          exact nlt_trans (fun h => hlt2 h) (HL.out.2.2.2 c h0 hc hci)))
        have hlb : decide (LtI (at_ q' j) (at_ q' i)) = false := decide_eq_false hlt2
        rw [hlb]
        clear hlt2 hlb
        obtain ⟨bb, hbb⟩ : ∃ bb, decide ((i : Int) > (i0 : Int)) = bb := ⟨_, rfl⟩
        rw [hbb] at HD
        go_wp2
        go_ret
        exact ⟨_, rfl, St.ex_in q' (St.ex_in bb (St.and_in ⟨by first | (rw [← hbb]; done) | (rw [← hbb]; rfl) | (rw [← hbb]; simp), HD.out⟩ HS))⟩
    · have hgd : decide ((c1 : Int) ≥ (n : Int)) = true := decide_eq_true (by omega)
      have HD := Aside0.mk (down_end HI.out.1 HI.out.2.1 HI.out.2.2 (fun c h0 hc hci => by have := HC1.out; omega))
      obtain ⟨bb, hbb⟩ : ∃ bb, decide ((i : Int) > (i0 : Int)) = bb := ⟨_, rfl⟩
      rw [hbb] at HD
      go_wp2
      go_ret
      exact ⟨_, rfl, St.ex_in q' (St.ex_in bb (St.and_in ⟨by first | (rw [← hbb]; done) | (rw [← hbb]; rfl) | (rw [← hbb]; simp), HD.out⟩ HS))⟩
end Go.Proofs.Ytiobcknobbimoaa.Ag
