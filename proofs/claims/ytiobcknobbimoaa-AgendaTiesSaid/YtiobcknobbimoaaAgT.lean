/- Ties: walked. -/
import Derived.Test.YtiobcknobbimoaaAgN
namespace Go.Proofs.Ytiobcknobbimoaa.Ag
open Go.RowKit Go.Proofs.YtiobcknobbimoaaW.PrintWords Go.Proofs.YtiobcknobbimoaaW.PrintLast Go.Proofs.YtiobcknobbimoaaW.PrintMore Go.Proofs.Ytiobcknobbimoaa.Sl
set_option linter.unusedVariables false
set_option linter.unusedSimpArgs false
def hh (i : Nat) : Nat := (i * 37 + 11) % 211
theorem hh_inj {i j : Nat} (hi : i < 211) (hj : j < 211) (h : hh i = hh j) : i = j := by
  unfold hh at h
  omega
def tiesL (due : Int) (a n : Nat) : List Th := (List.range' a n).map (fun i => ⟨(hh i : Int), due⟩)
theorem tiesL_set (due : Int) (n : Nat) (hn : n < 200) : setL (tiesL due 0 n) (hh n : Int) due = tiesL due 0 (n + 1) := by
  have hd : dropL (tiesL due 0 n) (hh n : Int) = tiesL due 0 n := dropL_none (fun t ht => by
    obtain ⟨i, hi, rfl⟩ := List.mem_map.1 ht
    have hi := (List.mem_range'_1.1 hi).2
    intro e
    have e : ((hh i : Nat) : Int) = ((hh n : Nat) : Int) := e
    have e : hh i = hh n := by omega
    have := hh_inj (by omega) (by omega) e
    omega)
  unfold setL
  rw [hd]
  unfold tiesL
  rw [List.range'_concat, List.map_append]
  simp
theorem tiesL_next (due : Int) (a n : Nat) : nextL (tiesL due a (n + 1)) = some ⟨(hh a : Int), due⟩ := by
  have hs : tiesL due a (n + 1) = ⟨(hh a : Int), due⟩ :: tiesL due (a + 1) n := by
    unfold tiesL
    rw [List.range'_succ]
    rfl
  have hall : ∀ j (hj : j < (tiesL due a (n + 1)).length), ((tiesL due a (n + 1))[j]).due = due := fun j hj => by
    obtain ⟨i, hi, e⟩ := List.mem_map.1 (List.getElem_mem hj)
    rw [← e]
  have h0 : 0 < (tiesL due a (n + 1)).length := by rw [hs]; simp
  rw [nextL_at _ 0 h0 (fun j hj => by rw [hall 0 h0, hall j hj]; exact Int.le_refl _) (fun j hj => by omega)]
  have : (tiesL due a (n + 1))[0]? = some ⟨(hh a : Int), due⟩ := by rw [hs]; rfl
  rw [List.getElem?_eq_getElem h0] at this
  exact this
theorem tiesL_pop (due : Int) (a n : Nat) (hn : a + n < 200) : popR (tiesL due a (n + 1)) due = .tuple #[.int .i64 (hh a : Int), .bool true] ∧ popL (tiesL due a (n + 1)) due = tiesL due (a + 1) n := by
  unfold popR popL
  rw [tiesL_next]
  refine ⟨if_neg (show ¬ due > due by omega), ?_⟩
  show (if due > due then _ else dropL (tiesL due a (n + 1)) (hh a : Int)) = _
  rw [if_neg (by omega)]
  have hs : tiesL due a (n + 1) = ⟨(hh a : Int), due⟩ :: tiesL due (a + 1) n := by
    unfold tiesL
    rw [List.range'_succ]
    rfl
  rw [hs]
  unfold dropL
  rw [List.filter_cons_of_neg (by simp)]
  exact dropL_none (fun t ht => by
    obtain ⟨i, hi, rfl⟩ := List.mem_map.1 ht
    have hi := List.mem_range'_1.1 hi
    intro e
    have e : ((hh i : Nat) : Int) = ((hh a : Nat) : Int) := e
    have e : hh i = hh a := by omega
    have := hh_inj (by omega) (by omega) e
    omega)
theorem tiesL_len (due : Int) (a n : Nat) : (tiesL due a n).length = n := by simp [tiesL]
theorem hh_rem (i : Nat) : ((i : Int) * 37 + 11).tmod 211 = (hh i : Int) := by
  rw [Int.tmod_eq_emod_of_nonneg (by omega)]
  unfold hh
  omega
set_option maxHeartbeats 4000000 in
set_option maxRecDepth 20000 in
theorem agendaTies_fun (nI : Int) (hn : (Lit.int .i64 nI).wf = true) (due : Int) (hd : (Lit.int .i64 due).wf = true) : FunV Try.prog 6 #[.int .i64 nI, .int .i64 due] (fun _ => True) [] (.bool true) [] := by
  intro w S hS_ hR
  have HS := St.start hS_
  clear hS_ hR hn hd
  go_enter Try.func6, Try.ntmps6
  go_wp2_with fail
  refine (awake_fun.call (F := []) HS (fun _ _ _ _ => trivial)).mono ?_
  rintro e_ w1 ⟨rfl, HS_⟩
  clear HS
  have HS : St w S w1 [] := HS_
  clear HS_
  rcases Int.lt_or_le nI 0 with h0 | h0
  · have h0d : decide (nI < 0) = true := decide_eq_true h0
    go_wp2_with fail
    refine (awake_fun.call (F := []) HS (fun _ _ _ _ => trivial)).mono ?_
    rintro e_ w2 ⟨rfl, HS_⟩
    clear HS
    go_wp2
    go_ret
    exact ⟨rfl, HS_⟩
  have h0d : decide (nI < 0) = false := decide_eq_false (by omega)
  rcases Int.lt_or_le 200 nI with h2 | h2
  · have h2d : decide (nI > 200) = true := decide_eq_true h2
    go_wp2_with fail
    refine (awake_fun.call (F := []) HS (fun _ _ _ _ => trivial)).mono ?_
    rintro e_ w2 ⟨rfl, HS_⟩
    clear HS
    go_wp2
    go_ret
    exact ⟨rfl, HS_⟩
  have h2d : decide (nI > 200) = false := decide_eq_false (by omega)
  go_wp2_with fail
  refine (newS.call (F := []) HS (fun _ _ _ _ => trivial)).mono ?_
  rintro e_ w2 ⟨r_, rfl, HS_⟩
  clear HS
  obtain ⟨ga, HS2⟩ := St.ex_ HS_
  obtain ⟨hr_, HS3⟩ := St.and_ HS2
  subst hr_
  have HS : St w S w2 [agS ga (tiesL due 0 0) 0] := HS3
  clear HS_ HS2 HS3 h0d h2d
  obtain ⟨n, rfl⟩ : ∃ n : Nat, nI = (n : Int) := ⟨nI.toNat, by omega⟩
  have hn2 : n ≤ 200 := by omega
  clear h0 h2
  go_wp2_with fail
  go_loopw [23] (fun v23 w' => ∃ j : Nat, j ≤ n ∧ v23 = .int .i64 j ∧ St w S w' [agS ga (tiesL due 0 j) j]) (fun v23 _ => n - (intOf v23).toNat)
  case atStart => exact ⟨0, Nat.zero_le _, rfl, HS⟩
  case round =>
    clear HS
    obtain ⟨j, hj, rfl, HS⟩ := hrel
    by_cases hlt : j < n
    · have hltI : (j : Int) < (n : Int) := by omega
      have hj0 : (0 : Int) ≤ (j : Int) := by omega
      have hjd : decide ((j : Int) < (n : Int)) = true := decide_eq_true hltI
      have hrm := hh_rem j
      have HT := Aside0.mk (tiesL_set due j (by omega))
      have hj2 : j ≤ 200 := by omega
      obtain ⟨x, hx⟩ : ∃ x, hh j = x := ⟨_, rfl⟩
      rw [hx] at hrm HT
      clear hx
      go_wp2_with fail
      refine ((set_ag ga (tiesL due 0 j) j (x : Int) due (by omega)).call (F := []) HS (fun _ _ _ _ => trivial)).mono ?_
      rintro e_ w3 ⟨rfl, HS_⟩
      clear HS hrm
      have HE : Aside0 (St w S w3 [agS ga (tiesL due 0 (j + 1)) (j + 1)]) := ⟨by rw [← HT.out]; exact HS_⟩
      clear HS_
      go_wp2
      go_roundw
      case rel => exact ⟨j + 1, by omega, by go_num, HE.out⟩
      case measure => simp [intOf]; omega
    · obtain rfl : j = n := by omega
      have hjd : decide ((j : Int) < (j : Int)) = false := decide_eq_false (by omega)
      have HS0 : St w S wr [agS ga (tiesL due 0 (j - 0)) j] := HS
      clear HS
      go_wp2_with fail
      go_loopw [35] (fun v35 w' => ∃ k : Nat, k ≤ j ∧ v35 = .int .i64 k ∧ St w S w' [agS ga (tiesL due k (j - k)) j]) (fun v35 _ => j - (intOf v35).toNat)
      case atStart => exact ⟨0, Nat.zero_le _, rfl, HS0⟩
      case round =>
        clear HS0
        obtain ⟨k, hk, rfl, HS⟩ := hrel
        by_cases hlt2 : k < j
        · have hltI : (k : Int) < (j : Int) := by omega
          have hk0 : (0 : Int) ≤ (k : Int) := by omega
          have hkd : decide ((k : Int) < (j : Int)) = true := decide_eq_true hltI
          have hrm := hh_rem k
          have hk2 : k ≤ 200 := by omega
          obtain ⟨d, hd⟩ : ∃ d, j - k = d + 1 := ⟨j - k - 1, by omega⟩
          have hp := tiesL_pop due k d (by omega)
          have hd2 : d = j - (k + 1) := by omega
          rw [hd] at HS
          obtain ⟨x, hx⟩ : ∃ x, hh k = x := ⟨_, rfl⟩
          rw [hx] at hrm hp
          have HP_ := Aside0.mk hp
          have HD := Aside0.mk hd2
          clear hx hp hd hd2
          go_wp2_with fail
          refine ((pop_ag ga (tiesL due k (d + 1)) j due (by omega)).call (F := []) HS (fun _ _ _ _ => trivial)).mono ?_
          rintro e_ w4 ⟨rfl, HS_⟩
          clear HS
          rw [HP_.out.1]
          have HE : Aside0 (St w S w4 [agS ga (tiesL due (k + 1) (j - (k + 1))) j]) := ⟨by rw [← HD.out, ← HP_.out.2]; exact HS_⟩
          clear HS_
          have hxx : ((x : Int) == (x : Int)) = true := beq_iff_eq.2 rfl
          go_wp2
          go_roundw
          case rel => exact ⟨k + 1, by omega, by go_num, HE.out⟩
          case measure => simp [intOf]; omega
        · obtain rfl : k = j := by omega
          have hkd : decide ((k : Int) < (k : Int)) = false := decide_eq_false (by omega)
          rw [Nat.sub_self] at HS
          go_wp2_with fail
          refine ((len_ag ga (tiesL due k 0) k).call (F := []) HS (fun _ _ _ _ => trivial)).mono ?_
          rintro e_ w5 ⟨rfl, HS_⟩
          clear HS
          rw [show ((tiesL due k 0).length : Int) = 0 from rfl]
          go_wp2
          go_ret
          exact ⟨by first | rfl | simp, HS_.out 0⟩
end Go.Proofs.Ytiobcknobbimoaa.Ag
