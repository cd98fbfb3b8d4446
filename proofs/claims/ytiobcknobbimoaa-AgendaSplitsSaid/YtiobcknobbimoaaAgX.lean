/- The document's agenda: Next, Pop walked. -/
import Derived.Test.YtiobcknobbimoaaAgR
namespace Go.Proofs.Ytiobcknobbimoaa.Ag
open Go.RowKit Go.Proofs.YtiobcknobbimoaaW.PrintWords Go.Proofs.YtiobcknobbimoaaW.PrintLast Go.Proofs.YtiobcknobbimoaaW.PrintMore Go.Proofs.Ytiobcknobbimoaa.Sl
set_option linter.unusedVariables false
set_option linter.unusedSimpArgs false
/-- The first minimal one among the first i. -/
def BestN (L : List Th) (i : Nat) (b : Int) : Prop := (b = -1 ∧ i = 0) ∨ ∃ m : Nat, ∃ hm : m < L.length, m < i ∧ b = (m : Int) ∧ (∀ j (h : j < L.length), j < i → L[m].due ≤ L[j].due) ∧ ∀ j (h : j < L.length), j < m → L[m].due < L[j].due
theorem best_end (L : List Th) (b : Int) (h : BestN L L.length b) : (b = -1 ∧ L = []) ∨ ∃ m : Nat, ∃ hm : m < L.length, b = (m : Int) ∧ nextL L = some L[m] := by
  rcases h with ⟨h1, h2⟩ | ⟨m, hm, h1, h2, h3, h4⟩
  · exact .inl ⟨h1, List.length_eq_zero_iff.1 h2⟩
  · exact .inr ⟨m, hm, h2, nextL_at L m hm (fun j hj => h3 j hj hj) (fun j hj => h4 j (by omega) hj)⟩
theorem best_first (L : List Th) (h : 0 < L.length) : BestN L 1 0 := .inr ⟨0, h, by omega, rfl, fun j hj h1 => by
  obtain rfl : j = 0 := by omega
  exact Int.le_refl _, fun j hj h1 => by omega⟩
theorem best_yes (L : List Th) (i m : Nat) (hi : i < L.length) (hm : m < L.length) (hb : BestN L i (m : Int)) (h : L[i].due < L[m].due) : BestN L (i + 1) (i : Int) := by
  rcases hb with ⟨h1, h2⟩ | ⟨m', hm', h1, h2, h3, h4⟩
  · omega
  · obtain rfl : m = m' := by omega
    refine .inr ⟨i, hi, by omega, rfl, fun j hj hji => ?_, fun j hj hji => ?_⟩
    · by_cases e : j = i
      · subst e; exact Int.le_refl _
      · have := h3 j hj (by omega); omega
    · have := h3 j hj hji; omega
theorem best_no (L : List Th) (i m : Nat) (hi : i < L.length) (hm : m < L.length) (hb : BestN L i (m : Int)) (h : ¬ L[i].due < L[m].due) : BestN L (i + 1) (m : Int) := by
  rcases hb with ⟨h1, h2⟩ | ⟨m', hm', h1, h2, h3, h4⟩
  · omega
  · obtain rfl : m = m' := by omega
    refine .inr ⟨m, hm, by omega, rfl, fun j hj hji => ?_, h4⟩
    by_cases e : j = i
    · subst e; omega
    · exact h3 j hj (by omega)
set_option maxHeartbeats 4000000 in
set_option maxRecDepth 20000 in
theorem refNext_fun (g : Nat) (L : List Th) (hl : L.length ≤ 100000) : FunV Try.prog 21 #[.pointer (some ⟨g, 0, none⟩)] (fun _ => True) [docA g L] (nextR L) [docA g L] := by
  intro w S hS_ hR
  obtain ⟨u, HS⟩ := St.ex_ (St.start hS_)
  have HS := refH_open HS
  clear hS_ hR
  have hu29 := Try.underlying29
  have hu27 := Try.underlying27
  have hu63 := Try.underlying63
  obtain ⟨A, c, rfl, hc, hC⟩ := St.row_C (HS.mv 1)
  clear hC
  go_enter Try.func21, Try.ntmps21
  go_wp2_with fail
  go_loopw [5, 6] (fun v5 v6 w' => ∃ (j : Nat) (b : Int), j ≤ L.length ∧ v5 = .int .i64 b ∧ v6 = .int .i64 j ∧ Aside0 (BestN L j b) ∧ St w S w' [HP.obj g 29 [.slice A L.length c], HP.row kTh 63 (.slice A L.length c) L]) (fun _ v6 _ => L.length - (intOf v6).toNat)
  case atStart => exact ⟨0, -1, Nat.zero_le _, rfl, rfl, ⟨.inl ⟨rfl, rfl⟩⟩, HS⟩
  case round =>
    clear HS
    obtain ⟨j, b, hj, rfl, rfl, HB, HS⟩ := hrel
    have q0 : wr.cell? ⟨g, 0, none⟩ = some (.slice A L.length c) := HS.cell 0
    by_cases hlt : j < L.length
    · have hltI : (j : Int) < (L.length : Int) := by omega
      have hj0 : (0 : Int) ≤ (j : Int) := by omega
      have hjd : decide ((j : Int) < (L.length : Int)) = true := decide_eq_true hltI
      obtain ⟨g3, c3, ev⟩ := St.row_form (HS.mv 1) (by omega)
      obtain ⟨rfl, -, rfl⟩ : A = some ⟨g3, 0, none⟩ ∧ L.length = L.length ∧ c = c3 := by simpa using ev
      clear ev
      obtain ⟨-, i1⟩ := th_cells (HS.mv 1) j hlt
      by_cases hz : j = 0
      · have hb : b = -1 := by
          rcases HB.out with h | ⟨m, hm, h1, _⟩
          · exact h.1
          · omega
        have HB2 : Aside0 (BestN L (j + 1) (j : Int)) := ⟨by subst hz; exact best_first L hlt⟩
        subst hb
        have hbd : decide ((-1 : Int) < 0) = true := rfl
        clear hz i1
        go_wp2_with fail
        go_quiet (fail)
        generalize hwq : World.drewN wr _ = wq
        have H5 := hwq ▸ HS.drewN _
        clear hwq HS
        go_wp2
        go_roundw
        case rel => exact ⟨j + 1, j, by omega, by go_num, by go_num, HB2, H5⟩
        case measure => simp [intOf]; omega
      · obtain ⟨m, rfl, hm, hmj⟩ : ∃ m : Nat, b = (m : Int) ∧ m < L.length ∧ m < j := by
          rcases HB.out with h | ⟨m, hm, h1, h2, _⟩
          · exact absurd h.2 hz
          · exact ⟨m, h2, hm, h1⟩
        have hbd : decide ((m : Int) < 0) = false := decide_eq_false (by omega)
        have hm0 : (0 : Int) ≤ (m : Int) := by omega
        have hmI : (m : Int) < (L.length : Int) := by omega
        obtain ⟨-, i2⟩ := th_cells (HS.mv 1) m hm
        have hyes := best_yes L j m hlt hm HB.out
        have hno := best_no L j m hlt hm HB.out
        obtain ⟨x, hx⟩ : ∃ x, L[j] = x := ⟨_, rfl⟩
        obtain ⟨y, hy⟩ : ∃ y, L[m] = y := ⟨_, rfl⟩
        rw [hx] at i1 hyes hno
        rw [hy] at i2 hyes hno
        have HY := Aside0.mk hyes
        have HN := Aside0.mk hno
        clear hx hy hyes hno hz
        by_cases hd : x.due < y.due
        · have hdd : decide (x.due < y.due) = true := decide_eq_true hd
          have HB2 := Aside0.mk (HY.out hd)
          clear hd
          go_wp2_with fail
          go_quiet (fail)
          generalize hwq : World.drewN wr _ = wq
          have H5 := hwq ▸ HS.drewN _
          clear hwq HS
          go_wp2
          go_roundw
          case rel => exact ⟨j + 1, j, by omega, by go_num, by go_num, HB2, H5⟩
          case measure => simp [intOf]; omega
        · have hdd : decide (x.due < y.due) = false := decide_eq_false hd
          have HB2 := Aside0.mk (HN.out hd)
          clear hd
          go_wp2_with fail
          go_quiet (fail)
          generalize hwq : World.drewN wr _ = wq
          have H5 := hwq ▸ HS.drewN _
          clear hwq HS
          go_wp2
          go_roundw
          case rel => exact ⟨j + 1, m, by omega, by go_num, by go_num, HB2, H5⟩
          case measure => simp [intOf]; omega
    · obtain rfl : j = L.length := by omega
      have hjd : decide ((L.length : Int) < (L.length : Int)) = false := decide_eq_false (by omega)
      rcases best_end L b HB.out with ⟨rfl, hL⟩ | ⟨m, hm, rfl, hn⟩
      · have HE : Aside0 (nextR L = .tuple #[.int .i64 0, .int .i64 0, .bool false]) := ⟨by rw [hL]; rfl⟩
        clear hL HB
        go_wp2
        go_ret3
        exact ⟨by rw [HE.out]; rfl, St.ex_in (.slice A L.length c) (refH_shut HS)⟩
      · have hm0 : (0 : Int) ≤ (m : Int) := by omega
        have hmI : (m : Int) < (L.length : Int) := by omega
        have hbd : decide ((m : Int) < 0) = false := decide_eq_false (by omega)
        obtain ⟨g3, c3, ev⟩ := St.row_form (HS.mv 1) (by omega)
        obtain ⟨rfl, -, rfl⟩ : A = some ⟨g3, 0, none⟩ ∧ L.length = L.length ∧ c = c3 := by simpa using ev
        clear ev
        obtain ⟨i0, i1⟩ := th_cells (HS.mv 1) m hm
        obtain ⟨y, hy⟩ : ∃ y, L[m] = y := ⟨_, rfl⟩
        rw [hy] at i0 i1 hn
        have HE : Aside0 (nextR L = .tuple #[.int .i64 y.what, .int .i64 y.due, .bool true]) := ⟨by unfold nextR; rw [hn]⟩
        clear hn hy HB
        go_wp2_with fail
        go_quiet (fail)
        generalize hwq : World.drewN wr _ = wq
        have H5 := hwq ▸ HS.drewN _
        clear hwq HS
        go_wp2
        go_ret3
        exact ⟨by rw [HE.out]; rfl, St.ex_in (.slice (some ⟨g3, 0, none⟩) L.length c) (refH_shut H5)⟩
set_option maxHeartbeats 4000000 in
set_option maxRecDepth 20000 in
theorem refPop_fun (g : Nat) (L : List Th) (now : Int) (hl : L.length ≤ 100000) : FunV Try.prog 20 #[.pointer (some ⟨g, 0, none⟩), .int .i64 now] (fun _ => True) [docA g L] (popR L now) [docA g (popL L now)] := by
  intro w S hS_ hR
  have HS := St.start hS_
  clear hS_ hR
  go_enter Try.func20, Try.ntmps20
  go_wp2_with fail
  refine ((refNext_fun g L hl).call (F := []) HS (fun _ _ _ _ => trivial)).mono ?_
  rintro e_ w1 ⟨rfl, HS_⟩
  clear HS
  have HS : St w S w1 [docA g L] := HS_
  clear HS_
  have HL : Aside0 (popL L now = match nextL L with | some t => if t.due > now then L else dropL L t.what | none => L) := ⟨rfl⟩
  have HR : Aside0 (popR L now = match nextL L with | some t => if t.due > now then .tuple #[.int .i64 0, .bool false] else .tuple #[.int .i64 t.what, .bool true] | none => .tuple #[.int .i64 0, .bool false]) := ⟨rfl⟩
  unfold nextR
  cases hn : nextL L with
  | none =>
    rw [hn] at HL HR
    have HL2 : Aside0 (popL L now = L) := ⟨HL.out⟩
    have HR2 : Aside0 (popR L now = .tuple #[.int .i64 0, .bool false]) := ⟨HR.out⟩
    clear HL HR hn
    go_wp2
    go_ret2
    exact ⟨by rw [HR2.out]; rfl, by rw [HL2.out]; exact HS⟩
  | some t =>
    rw [hn] at HL HR
    by_cases hd : t.due > now
    · have HL2 : Aside0 (popL L now = L) := ⟨by rw [HL.out]; exact if_pos hd⟩
      have HR2 : Aside0 (popR L now = .tuple #[.int .i64 0, .bool false]) := ⟨by rw [HR.out]; exact if_pos hd⟩
      have hdd : decide (t.due > now) = true := decide_eq_true hd
      clear HL HR hn hd
      go_wp2
      go_ret2
      exact ⟨by rw [HR2.out]; rfl, by rw [HL2.out]; exact HS⟩
    · have HL2 : Aside0 (popL L now = dropL L t.what) := ⟨by rw [HL.out]; exact if_neg hd⟩
      have HR2 : Aside0 (popR L now = .tuple #[.int .i64 t.what, .bool true]) := ⟨by rw [HR.out]; exact if_neg hd⟩
      have hdd : decide (t.due > now) = false := decide_eq_false hd
      clear HL HR hn hd
      go_wp2_with fail
      refine ((refDrop_fun g L t.what hl).call (F := []) HS (fun _ _ _ _ => trivial)).mono ?_
      rintro e_ w2 ⟨rfl, HS_⟩
      clear HS
      go_wp2
      go_ret2
      exact ⟨by rw [HR2.out]; rfl, by rw [HL2.out]; exact HS_⟩
end Go.Proofs.Ytiobcknobbimoaa.Ag
