/- A queue's memory; cmp.Compare, cmp.Or, Len and Less: walked. -/
import Derived.Test.YtiobcknobbimoaaAgM
import Derived.Test.YtiobcknobbimoaaAgP
import Derived.Test.YtiobcknobbimoaaSlStep
import Derived.Test.YtiobcknobbimoaaSlOps
import Derived.Deep.DeepCutAuto
import Derived.Deep.QuietTactic
import Derived.BigQuiet
import Derived.Laws.EntriesVeiled
namespace Go.Proofs.Ytiobcknobbimoaa.Ag
open Go.RowKit Go.Proofs.YtiobcknobbimoaaW.PrintWords Go.Proofs.YtiobcknobbimoaaW.PrintLast Go.Proofs.YtiobcknobbimoaaW.PrintMore Go.Proofs.Ytiobcknobbimoaa.Sl
set_option linter.unusedVariables false
set_option linter.unusedSimpArgs false
theorem all_pick : ∀ (L : List HP) (j : Nat) (A : HP) (h : L[j]? = some A), Gives (Sl.all L) (HP.star A (Sl.all (L.eraseIdx j)))
  | [], j, A, h => by simp at h
  | B :: L, 0, A, h => by
    obtain rfl : B = A := by simpa using h
    exact Gives.refl _
  | B :: L, j + 1, A, h => ((Gives.refl B).star (all_pick L j A (by simpa using h))).trans (Gives.swap _ _ _)
theorem all_back (A : HP) : ∀ (L : List HP) (j : Nat) (h : j < L.length), Gives (HP.star A (Sl.all (L.eraseIdx j))) (Sl.all (L.set j A))
  | [], j, h => by simp at h
  | B :: L, 0, h => Gives.refl _
  | B :: L, j + 1, h => (Gives.swap _ _ _).trans ((Gives.refl B).star (all_back A L j (by simpa using h)))
theorem st_pick {w0 w : World} {S0 : Nat → Prop} {F L : List HP} {A : HP} (h : St w0 S0 w (Sl.all L :: F)) (j : Nat) (hj : L[j]? = some A) : St w0 S0 w (A :: Sl.all (L.eraseIdx j) :: F) := (h.head (all_pick L j A hj)).star_
theorem st_back {w0 w : World} {S0 : Nat → Prop} {F L : List HP} {A : HP} (j : Nat) (hj : j < L.length) (h : St w0 S0 w (A :: Sl.all (L.eraseIdx j) :: F)) : St w0 S0 w (Sl.all (L.set j A) :: F) := (h.unstar).head (all_back A L j hj)
/-- A thing's struct, at its place. -/
def itemH (i : Nat) (x : It) : HP := HP.obj x.g 55 [.int .i64 x.what, .int .i64 x.due, .int .i64 x.turn, .int .i64 (i : Int)]
def itemsH (q : List It) : List HP := q.mapIdx itemH
theorem itemsH_get (q : List It) (j : Nat) (h : j < q.length) : (itemsH q)[j]? = some (itemH j (at_ q j)) := by
  unfold itemsH
  rw [List.getElem?_mapIdx, List.getElem?_eq_getElem h, at_get q j h]
  rfl
theorem itemsH_len (q : List It) : (itemsH q).length = q.length := by simp [itemsH]
def kPt : Kd Nat := Kd.scalar (fun g : Nat => Value.pointer (some ⟨g, 0, none⟩)) (fun _ => rfl)
/-- The queue's row of pointers. -/
def rowP (v : Value) (q : List It) : HP := HP.row kPt 56 v (q.map (·.g))
theorem rowP_form {w0 w : World} {S0 : Nat → Prop} {F : List HP} {v : Value} {q : List It} (h : St w0 S0 w (rowP v q :: F)) : ∃ A c, v = .slice A q.length c ∧ q.length ≤ c ∧ (0 < q.length → ∃ g, A = some ⟨g, 0, none⟩) := by
  obtain ⟨A, c, hv, hc, _⟩ := St.row_C h
  rw [List.length_map] at hv hc
  refine ⟨A, c, hv, hc, fun h0 => ?_⟩
  obtain ⟨g, cap, hv2⟩ := St.row_form h (by rw [List.length_map]; exact h0)
  rw [hv] at hv2
  exact ⟨g, by simpa using (Value.slice.inj hv2).1⟩
theorem rowP_cell {w0 w : World} {S0 : Nat → Prop} {F : List HP} {g n c : Nat} {q : List It} (h : St w0 S0 w (rowP (.slice (some ⟨g, 0, none⟩) n c) q :: F)) (i : Nat) (hi : i < q.length) :
    w.cell? ⟨g, i, none⟩ = some (.pointer (some ⟨(at_ q i).g, 0, none⟩)) ∧ w.frozen? ⟨g, i, none⟩ = false := by
  have hn := (St.row_reads h).1
  rw [List.length_map] at hn
  have := St.row_cell (enc := fun g : Nat => Value.pointer (some ⟨g, 0, none⟩)) 0 h i (by omega)
  have e : (q.map (·.g)).getD i 0 = (at_ q i).g := by
    rw [List.getD_eq_getElem?_getD, List.getElem?_map, List.getElem?_eq_getElem hi, at_get q i hi]
    rfl
  rw [e] at this
  exact this
theorem item_cells {w0 w : World} {S0 : Nat → Prop} {F : List HP} {q : List It} (h : St w0 S0 w (Sl.all (itemsH q) :: F)) (i : Nat) (hi : i < q.length) :
    w.cell? ⟨(at_ q i).g, 0, none⟩ = some (.int .i64 (at_ q i).what) ∧ w.cell? ⟨(at_ q i).g, 1, none⟩ = some (.int .i64 (at_ q i).due) ∧ w.cell? ⟨(at_ q i).g, 2, none⟩ = some (.int .i64 (at_ q i).turn) ∧ w.cell? ⟨(at_ q i).g, 3, none⟩ = some (.int .i64 (i : Int)) := by
  have h1 := st_pick h i (itemsH_get q i hi)
  exact ⟨h1.cell 0, h1.cell 1, h1.cell 2, h1.cell 3⟩
def cmpI (a b : Int) : Int := if a < b then -1 else if a > b then 1 else 0
theorem nan_fun (a : Int) (w : World) : Calls Try.prog 48 #[.int .i64 a] w fun e w' => e = .returned (.bool false) ∧ w' = w := by
  go_enter Try.func48, Try.ntmps48
  go_wp2
  go_ret
  exact ⟨by first | rfl | simp, rfl⟩
theorem compare_fun (a b : Int) (w : World) : Calls Try.prog 47 #[.int .i64 a, .int .i64 b] w fun e w' => e = .returned (.int .i64 (cmpI a b)) ∧ w' = w := by
  go_enter Try.func47, Try.ntmps47
  go_wp2_with fail
  refine (nan_fun a w).mono ?_
  rintro e_ w1 ⟨rfl, rfl⟩
  go_wp2_with fail
  refine (nan_fun b _).mono ?_
  rintro e_ w2 ⟨rfl, rfl⟩
  rcases Int.lt_trichotomy a b with h | h | h
  · have h1 : decide (a < b) = true := decide_eq_true h
    have he : cmpI a b = -1 := by unfold cmpI; rw [if_pos h]
    have HE := Aside0.mk he
    clear he h
    go_wp2
    go_ret
    exact ⟨by rw [HE.out]; rfl, rfl⟩
  · have h1 : decide (a < b) = false := decide_eq_false (by omega)
    have h2 : decide (a > b) = false := decide_eq_false (by omega)
    have he : cmpI a b = 0 := by unfold cmpI; rw [if_neg (by omega), if_neg (by omega)]
    have HE := Aside0.mk he
    clear he h
    go_wp2
    go_ret
    exact ⟨by rw [HE.out]; rfl, rfl⟩
  · have h1 : decide (a < b) = false := decide_eq_false (by omega)
    have h2 : decide (a > b) = true := decide_eq_true (by omega)
    have he : cmpI a b = 1 := by unfold cmpI; rw [if_neg (by omega), if_pos (by omega)]
    have HE := Aside0.mk he
    clear he h
    go_wp2
    go_ret
    exact ⟨by rw [HE.out]; rfl, rfl⟩
def orL (xs : List Int) : Int := (xs.find? (fun x => decide (x ≠ 0))).getD 0
theorem orL_at (xs : List Int) (j : Nat) (hj : j < xs.length) (h : ∀ k (h : k < xs.length), k < j → xs[k] = 0) (hx : xs[j] ≠ 0) : orL xs = xs[j] := by
  unfold orL
  rw [List.find?_eq_some_iff_getElem.2 ⟨by simpa using hx, j, hj, rfl, fun k hk => by simpa using h k (by omega) hk⟩]
  rfl
theorem orL_none (xs : List Int) (h : ∀ k (h : k < xs.length), xs[k] = 0) : orL xs = 0 := by
  unfold orL
  rw [List.find?_eq_none.2 (fun x hx => by
    obtain ⟨k, hk, rfl⟩ := List.getElem_of_mem hx
    simp [h k hk])]
  rfl
set_option maxHeartbeats 2000000 in
theorem or_fun (v : Value) (xs : List Int) (hl : xs.length ≤ 1000000) : FunV Try.prog 46 #[v] (fun _ => True) [HP.row (Kd.int .i64) 3 v xs] (.int .i64 (orL xs)) [HP.row (Kd.int .i64) 3 v xs] := by
  intro w S hS hR
  have HS := St.start hS
  clear hS hR
  have hu46 := Try.underlying46
  obtain ⟨A, c, rfl, hc, hC⟩ := St.row_C HS
  clear hC
  go_enter Try.func46, Try.ntmps46
  go_wp2_with fail
  go_loopw [8] (fun v8 w' => ∃ j : Nat, j ≤ xs.length ∧ v8 = .int .i64 j ∧ Aside0 (∀ k (h : k < xs.length), k < j → xs[k] = 0) ∧ St w S w' [HP.row (Kd.int .i64) 3 (.slice A xs.length c) xs]) (fun v8 _ => xs.length - (intOf v8).toNat)
  case atStart => exact ⟨0, Nat.zero_le _, rfl, ⟨fun k h h1 => by omega⟩, HS⟩
  case round =>
    clear HS
    obtain ⟨j, hj, rfl, HA, HS⟩ := hrel
    by_cases hlt : j < xs.length
    · have hltI : (j : Int) < (xs.length : Int) := by omega
      have hj0 : (0 : Int) ≤ (j : Int) := by omega
      have hjd : decide ((j : Int) < (xs.length : Int)) = true := decide_eq_true hltI
      obtain ⟨g, c2, ev⟩ := St.row_form HS (by omega)
      obtain ⟨rfl, -, rfl⟩ : A = some ⟨g, 0, none⟩ ∧ xs.length = xs.length ∧ c = c2 := by simpa using ev
      clear ev
      have q0 := (St.row_cell (enc := fun n : Int => Value.int .i64 n) 0 HS j hlt).1
      have e0 : xs.getD j 0 = xs[j] := by simp [List.getD_eq_getElem?_getD, List.getElem?_eq_getElem hlt]
      rw [e0] at q0
      clear e0
      by_cases hx : xs[j] = 0
      · have hxb : (xs[j] == 0) = true := beq_iff_eq.2 hx
        have hnA := Aside0.mk (show ∀ k (h : k < xs.length), k < j + 1 → xs[k] = 0 from fun k h hk => by
          by_cases e : k = j
          · subst e; exact hx
          · exact HA.out k h (by omega))
        rw [hx] at q0
        clear hx hxb
        go_wp2
        go_roundw
        case rel => exact ⟨j + 1, by omega, by go_num, hnA, HS⟩
        case measure => simp [intOf]; omega
      · have hor := orL_at xs j hlt HA.out hx
        obtain ⟨y, hy⟩ : ∃ y, xs[j] = y := ⟨_, rfl⟩
        rw [hy] at q0 hor hx
        have hxb : (y == 0) = false := beq_eq_false_iff_ne.2 hx
        have HO := Aside0.mk hor
        clear hor hy hx
        go_wp2
        go_ret
        exact ⟨by rw [HO.out]; rfl, HS⟩
    · obtain rfl : j = xs.length := by omega
      have hjd : decide ((xs.length : Int) < (xs.length : Int)) = false := decide_eq_false (by omega)
      have HO := Aside0.mk (orL_none xs (fun k h => HA.out k h h))
      go_wp2
      go_ret
      exact ⟨by rw [HO.out]; rfl, HS⟩
theorem less_eq (x y : It) : decide (orL [cmpI x.due y.due, cmpI x.turn y.turn] < 0) = decide (LtI x y) := by
  unfold orL cmpI LtI
  rcases Int.lt_trichotomy x.due y.due with h | h | h
  · rw [if_pos h]
    simp [h]
  · rw [if_neg (by omega), if_neg (by omega)]
    rcases Int.lt_trichotomy x.turn y.turn with h2 | h2 | h2
    · rw [if_pos h2]; simp [h, h2]
    · rw [if_neg (by omega), if_neg (by omega)]; simp [h, h2]
    · rw [if_neg (by omega), if_pos (by omega)]
      have : ¬ x.turn < y.turn := by omega
      simp [h, this]
  · rw [if_neg (by omega), if_pos (by omega)]
    have h2 : ¬ x.due < y.due := by omega
    have h3 : ¬ x.due = y.due := by omega
    simp [h2, h3]
theorem len_fun (A : Option Addr) (n c : Nat) (w : World) : Calls Try.prog 43 #[.slice A n c] w fun e w' => e = .returned (.int .i64 n) ∧ w' = w := by
  go_enter Try.func43, Try.ntmps43
  go_wp2
  go_ret
  exact ⟨by first | rfl | simp, rfl⟩
end Go.Proofs.Ytiobcknobbimoaa.Ag
