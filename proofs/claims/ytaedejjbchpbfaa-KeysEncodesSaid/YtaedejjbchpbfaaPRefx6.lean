/- Plain Lean functions for Go functions, and their contracts: written by a program (the kit's printer) over a list of functions. -/
import Derived.Test.YtaedejjbchpbfaaPRefx0
import Derived.Test.YtaedejjbchpbfaaPRefx5
namespace Go.Proofs.Ytaedejjbchpbfaa.PRef
open Go.RowKit Go.Proofs.YtaedejjbchpbfaaW.PrintWords Go.Proofs.YtaedejjbchpbfaaW.PrintLast Go.Proofs.YtaedejjbchpbfaaW.PrintMore
attribute [local go_sem] max2_int min2_int max_two min_two max_three min_three max_four min_four   -- for this text's walks alone
set_option linter.unusedVariables false
set_option linter.unusedSimpArgs false

/-! ### lintelref02_Stands: function 16 -/
mutual
def lintelref02_Stands.l0 : Nat → List (S24) → List (S24) → Int → Option (Int)
  | 0, _, _, _ => none
  | k + 1, x0, x1, x5 => if x5 < (x0.length : Int) then (lintelref02_Stands.j1 k x0 x1 x5 (decide (x5 < (x1.length : Int)))) else (lintelref02_Stands.j1 k x0 x1 x5 false)
def lintelref02_Stands.j1 : Nat → List (S24) → List (S24) → Int → Bool → Option (Int)
  | 0, _, _, _, _ => none
  | k + 1, x0, x1, x5, x16 => if x16 = true then (if 0 ≤ x5 then (if x5 < (x0.length : Int) then (if x5 < (x1.length : Int) then ((lintelref01_Compare.f k ((rd_T24 x0 x5).f0) ((rd_T24 x0 x5).f1) ((rd_T24 x0 x5).f2) ((rd_T24 x1 x5).f0) ((rd_T24 x1 x5).f1) ((rd_T24 x1 x5).f2)).bind fun t171 => (if t171 = 0 then (lintelref02_Stands.l0 k x0 x1 (wrap64 (x5 + 1))) else (some t171))) else (none)) else (none)) else (none)) else (if (x0.length : Int) < (x1.length : Int) then (some (-1)) else (if (x0.length : Int) > (x1.length : Int) then (some 1) else (some 0)))
end
def lintelref02_Stands.f (k : Nat) (l0 : List (S24)) (l1 : List (S24)) : Option (Int) := lintelref02_Stands.l0 k l0 l1 0
theorem lintelref02_Stands.mono_l : ∀ k, (∀ y0 y1 y2, LeO (lintelref02_Stands.l0 k y0 y1 y2) (lintelref02_Stands.l0 (k + 1) y0 y1 y2)) ∧ (∀ y0 y1 y2 y3, LeO (lintelref02_Stands.j1 k y0 y1 y2 y3) (lintelref02_Stands.j1 (k + 1) y0 y1 y2 y3))
  | 0 => ⟨fun _ _ _ r h => by simp [lintelref02_Stands.l0] at h, fun _ _ _ _ r h => by simp [lintelref02_Stands.j1] at h⟩
  | k + 1 => by
    obtain ⟨ih0, ih1⟩ := lintelref02_Stands.mono_l k
    refine ⟨?_, ?_⟩
    · intro y0 y1 y2
      unfold lintelref02_Stands.l0
      repeat' first
      | (with_reducible exact ih0 _ _ _)
      | (with_reducible exact ih1 _ _ _ _)
      | (with_reducible exact lintelref01_Compare.mono _ _ _ _ _ _ _)
      | (with_reducible exact LeO.refl _)
      | (with_reducible exact LeO.none _)
      | (with_reducible refine LeO.ite ?_ ?_)
      | (with_reducible refine LeO.bind ?_ (fun _ => ?_))
      | exact ih0 _ _ _
      | exact ih1 _ _ _ _
      | exact lintelref01_Compare.mono _ _ _ _ _ _ _
      | exact LeO.none _
      | refine LeO.ite ?_ ?_
      | refine LeO.bind ?_ (fun _ => ?_)
    · intro y0 y1 y2 y3
      unfold lintelref02_Stands.j1
      repeat' first
      | (with_reducible exact ih0 _ _ _)
      | (with_reducible exact ih1 _ _ _ _)
      | (with_reducible exact lintelref01_Compare.mono _ _ _ _ _ _ _)
      | (with_reducible exact LeO.refl _)
      | (with_reducible exact LeO.none _)
      | (with_reducible refine LeO.ite ?_ ?_)
      | (with_reducible refine LeO.bind ?_ (fun _ => ?_))
      | exact ih0 _ _ _
      | exact ih1 _ _ _ _
      | exact lintelref01_Compare.mono _ _ _ _ _ _ _
      | exact LeO.none _
      | refine LeO.ite ?_ ?_
      | refine LeO.bind ?_ (fun _ => ?_)
theorem lintelref02_Stands.mono : ∀ a0 a1 k, LeO (lintelref02_Stands.f k a0 a1) (lintelref02_Stands.f (k + 1) a0 a1) := by
  intro a0 a1 k
  obtain ⟨ih0, ih1⟩ := lintelref02_Stands.mono_l k
  unfold lintelref02_Stands.f
  repeat' first
      | (with_reducible exact ih0 _ _ _)
      | (with_reducible exact ih1 _ _ _ _)
      | (with_reducible exact lintelref01_Compare.mono _ _ _ _ _ _ _)
      | (with_reducible exact LeO.refl _)
      | (with_reducible exact LeO.none _)
      | (with_reducible refine LeO.ite ?_ ?_)
      | (with_reducible refine LeO.bind ?_ (fun _ => ?_))
      | exact ih0 _ _ _
      | exact ih1 _ _ _ _
      | exact lintelref01_Compare.mono _ _ _ _ _ _ _
      | exact LeO.none _
      | refine LeO.ite ?_ ?_
      | refine LeO.bind ?_ (fun _ => ?_)
def lintelref02_Stands.T4 : Bool × List (List Nat × List Nat) := (true, [([], []), ([], []), ([0, 1], [0, 1]), ([2], [2]), ([], []), ([], []), ([4, 5], [4, 5]), ([6], [6]), ([3, 7], [3, 7]), ([8, 8, 0, 1, 2, 3, 4, 5, 6, 7, 8], [8])])
def lintelref02_Stands.B4 : List Nat := [0, 0, 3, 7, 0, 0, 48, 112, 255, 511]
theorem lintelref02_Stands.tab4 : rtab .any (opsOf Try.f16 4) = lintelref02_Stands.T4 := by kernel_rfl
theorem lintelref02_Stands.bits4 : waitsOk lintelref02_Stands.T4.2 lintelref02_Stands.B4 = true := by kernel_rfl
set_option maxHeartbeats 8000000 in
set_option maxRecDepth 100000 in
theorem lintelref02_Stands.calls (k : Nat) (A0 : Option Addr) (c0 : Nat) (l0 : List (S24)) (A1 : Option Addr) (c1 : Nat) (l1 : List (S24)) (r : Int) (w : World) (hr0 : Kd.C k24 w A0 l0.length l0) (hc0 : l0.length ≤ c0) (hr1 : Kd.C k24 w A1 l1.length l1) (hc1 : l1.length ≤ c1) (h : lintelref02_Stands.f k l0 l1 = some r) :
    Calls Try.prog 16 #[.slice A0 l0.length c0, .slice A1 l1.length c1] w fun e w' => e = .returned (.int .i64 r) ∧ Below w.heap.size w w' := by
  have hu24 := Try.underlying24
  have HR0 := Aside0.mk hr0
  have HC0 := Aside0.mk hc0
  clear hr0 hc0
  have HR1 := Aside0.mk hr1
  have HC1 := Aside0.mk hc1
  clear hr1 hc1
  have HB := Aside0.mk (Below.refl w.heap.size w)
  have H : (lintelref02_Stands.l0 k l0 l1 0) = some r := h
  clear h
  have H' := Aside0.mk H
  clear H
  go_enter Try.func16, Try.ntmps16
  go_wp2
  go_loopg [5] k (fun kq v5 w' => ∃ (x5_1 : Int), v5 = .int .i64 x5_1 ∧ Aside0 (lintelref02_Stands.l0 kq l0 l1 x5_1 = some r) ∧ Aside0 (kq ≤ k) ∧ Aside0 (Below w.heap.size w w'))
  case atStart => exact ⟨(0), (by first | rfl | (simp; done) | (simp [*]; done)), H', ⟨Nat.le_refl _⟩, ⟨by repeat (first | (with_reducible first | exact HB.out | apply below_alloc | apply pw_below_drewN | apply below_drew1) | exact HB.out)⟩⟩
  case round =>
    clear H'
    try clear c1
    try clear p2
    obtain ⟨x5_1, rfl, HA, HK1, HB⟩ := hrel
    cases gk with
    | zero => exact absurd HA.out (by simp [lintelref02_Stands.l0])
    | succ k1 =>
      have H := HA.out
      clear HA
      simp only [lintelref02_Stands.l0] at H
      have HC3 := Aside0.mk H
      clear H
      go_upto_region 2 with (fail)
      go_cut [16] (fun v16 wc => ∃ (kq : Nat) (x16_2 : Bool), v16 = .bool x16_2 ∧ Aside0 (lintelref02_Stands.j1 kq l0 l1 x5_1 x16_2 = some r) ∧ Aside0 (kq ≤ k1) ∧ Aside0 (Below w.heap.size w wc))
      case first =>
        have H := HC3.out
        clear HC3
        by_cases c4 : x5_1 < (l0.length : Int)
        · rw [if_pos c4] at H
          have c4b0 : decide (x5_1 < (l0.length : Int)) = true := decide_eq_true c4
          clear c4
          (first | rw [c4b0] | (simp only [i64_w, i32_w]; rw [c4b0]) | skip)
          have H' := Aside0.mk H
          clear H
          go_wp2
          go_meet
          case rel => exact ⟨_, (decide (x5_1 < (l1.length : Int))), (by first | rfl | (simp; done) | (simp [*]; done)), H', ⟨by have := HK1.out; first | omega | exact Nat.le_refl _⟩, ⟨by repeat (first | (with_reducible first | exact HB.out | apply below_alloc | apply pw_below_drewN | apply below_drew1) | exact HB.out)⟩⟩
        · rw [if_neg c4] at H
          have c4b0 : decide (x5_1 < (l0.length : Int)) = false := decide_eq_false c4
          clear c4
          (first | rw [c4b0] | (simp only [i64_w, i32_w]; rw [c4b0]) | skip)
          have H' := Aside0.mk H
          clear H
          go_wp2
          go_meet
          case rel => exact ⟨_, (false), (by first | rfl | (simp; done) | (simp [*]; done)), H', ⟨by have := HK1.out; first | omega | exact Nat.le_refl _⟩, ⟨by repeat (first | (with_reducible first | exact HB.out | apply below_alloc | apply pw_below_drewN | apply below_drew1) | exact HB.out)⟩⟩
      case rest =>
        clear HC3
        try clear c1
        try clear p2
        try clear c4
        try clear c4b0
        try clear p2
        obtain ⟨kq, x16_2, rfl, HA, HJ2, HB⟩ := hcut
        cases kq with
        | zero => exact absurd HA.out (by simp [lintelref02_Stands.j1])
        | succ kj2 =>
          have H := HA.out
          clear HA
          simp only [lintelref02_Stands.j1] at H
          by_cases c5 : x16_2 = true
          · subst c5
            have H1 : (if 0 ≤ x5_1 then (if x5_1 < (l0.length : Int) then (if x5_1 < (l1.length : Int) then ((lintelref01_Compare.f kj2 ((rd_T24 l0 x5_1).f0) ((rd_T24 l0 x5_1).f1) ((rd_T24 l0 x5_1).f2) ((rd_T24 l1 x5_1).f0) ((rd_T24 l1 x5_1).f1) ((rd_T24 l1 x5_1).f2)).bind fun t171 => (if t171 = 0 then (lintelref02_Stands.l0 kj2 l0 l1 (wrap64 (x5_1 + 1))) else (some t171))) else (none)) else (none)) else (none)) = some r := by rw [if_pos rfl] at H; exact H
            clear H
            have H := H1
            clear H1
            by_cases c6 : 0 ≤ x5_1
            · rw [if_pos c6] at H
              have c6b0 : decide (0 ≤ x5_1) = true := decide_eq_true c6
              clear c6
              by_cases c7 : x5_1 < (l0.length : Int)
              · rw [if_pos c7] at H
                have c7b0 : decide (x5_1 < (l0.length : Int)) = true := decide_eq_true c7
                clear c7
                by_cases c8 : x5_1 < (l1.length : Int)
                · rw [if_pos c8] at H
                  have c8b0 : decide (x5_1 < (l1.length : Int)) = true := decide_eq_true c8
                  clear c8
                  replace H := Option.bind_eq_some_iff.mp H
                  obtain ⟨t171, A90, H⟩ := H
                  replace H : (if t171 = 0 then (lintelref02_Stands.l0 kj2 l0 l1 (wrap64 (x5_1 + 1))) else (some t171)) = some r := H
                  have A9 := Aside0.mk A90
                  clear A90
                  by_cases c10 : t171 = 0
                  · rw [if_pos c10] at H
                    have c10b0 : (t171 == 0) = true := beq_iff_eq.mpr c10
                    have c10b1 : (t171 != 0) = false := bne_eq_false_iff_eq.mpr c10
                    clear c10
                    have H' := Aside0.mk H
                    clear H
                    try go_wp2
                    have n0_ := Aside0.mk (below_drew1 HB.out)
                    clear HB
                    have HB := n0_
                    clear n0_
                    have p169 : 0 ≤ (x5_1 : Int) := of_decide_eq_true (by first | (with_reducible assumption) | assumption)
                    have q169 : x5_1 < (l0.length : Int) := of_decide_eq_true (by first | (with_reducible assumption) | assumption)
                    obtain ⟨ad169, e169, hx169_0, hx169_1, hx169_2⟩ := at_T24 HR0.out x5_1 p169 q169
                    have hw169_2 := hx169_2
                    have hw169_1 := hx169_1
                    have hw169_0 := hx169_0
                    cases e169
                    replace hx169_0 := (HB.out.cell (World.block_lt_of_cell? w _ hx169_0)).trans hx169_0
                    replace hx169_1 := (HB.out.cell (World.block_lt_of_cell? w _ hx169_1)).trans hx169_1
                    replace hx169_2 := (HB.out.cell (World.block_lt_of_cell? w _ hx169_2)).trans hx169_2
                    replace p169 := eq_true p169
                    replace q169 := eq_true q169
                    have p170 : 0 ≤ (x5_1 : Int) := of_decide_eq_true (by first | (with_reducible assumption) | assumption)
                    have q170 : x5_1 < (l1.length : Int) := of_decide_eq_true (by first | (with_reducible assumption) | assumption)
                    obtain ⟨ad170, e170, hx170_0, hx170_1, hx170_2⟩ := at_T24 HR1.out x5_1 p170 q170
                    have hw170_2 := hx170_2
                    have hw170_1 := hx170_1
                    have hw170_0 := hx170_0
                    cases e170
                    replace hx170_0 := (HB.out.cell (World.block_lt_of_cell? w _ hx170_0)).trans hx170_0
                    replace hx170_1 := (HB.out.cell (World.block_lt_of_cell? w _ hx170_1)).trans hx170_1
                    replace hx170_2 := (HB.out.cell (World.block_lt_of_cell? w _ hx170_2)).trans hx170_2
                    replace p170 := eq_true p170
                    replace q170 := eq_true q170
                    refine start_ (n := 10) (S := fun w' => w'.cell? (ad169.add ((x5_1).toNat * 3)) = some (.int .i64 ((rd_T24 l0 x5_1).f0)) ∧ w'.cell? ⟨(ad169.add ((x5_1).toNat * 3)).block, (ad169.add ((x5_1).toNat * 3)).off + 1, none⟩ = some (.int .i64 ((rd_T24 l0 x5_1).f1)) ∧ w'.cell? ⟨(ad169.add ((x5_1).toNat * 3)).block, (ad169.add ((x5_1).toNat * 3)).off + 2, none⟩ = some (.string ((rd_T24 l0 x5_1).f2)) ∧ w'.cell? (ad170.add ((x5_1).toNat * 3)) = some (.int .i64 ((rd_T24 l1 x5_1).f0)) ∧ w'.cell? ⟨(ad170.add ((x5_1).toNat * 3)).block, (ad170.add ((x5_1).toNat * 3)).off + 1, none⟩ = some (.int .i64 ((rd_T24 l1 x5_1).f1)) ∧ w'.cell? ⟨(ad170.add ((x5_1).toNat * 3)).block, (ad170.add ((x5_1).toNat * 3)).off + 2, none⟩ = some (.string ((rd_T24 l1 x5_1).f2))) (ds := []) #[false, false, false, false, false, false, false, false, false, false] (by kernel_rfl) rfl rfl ⟨((HB.out.cell (World.block_lt_of_cell? w _ hw169_0)).trans hw169_0), ((HB.out.cell (World.block_lt_of_cell? w _ hw169_1)).trans hw169_1), ((HB.out.cell (World.block_lt_of_cell? w _ hw169_2)).trans hw169_2), ((HB.out.cell (World.block_lt_of_cell? w _ hw170_0)).trans hw170_0), ((HB.out.cell (World.block_lt_of_cell? w _ hw170_1)).trans hw170_1), ((HB.out.cell (World.block_lt_of_cell? w _ hw170_2)).trans hw170_2)⟩ (fun hHeld => ?_); refine with_tabW lintelref02_Stands.tab4 lintelref02_Stands.bits4 (fun HT_ HW_ => ?_)
                    generalize wc.drew = w11 at HB hx169_0 hx169_1 hx169_2 hx170_0 hx170_1 hx170_2 hHeld ⊢
                    refine pure_ (i := 0) (N := some 19) (v := ?_) (a' := ?_) #[true, false, false, false, false, false, false, false, false, false] rfl rfl (any_of HT_.out (by kernel_rfl)) (fun _ _ _ h => h) (Or.inl ⟨by rfl, ?_⟩) ?_ ?_
                    rotate_left
                    · intro w'
                      go_simp
                      with_reducible rfl
                    rotate_left
                    · simp only [Act.put, List.setIfInBounds_toArray, List.set_cons_zero, List.set_cons_succ, i64_w, i32_w]
                      rfl
                    refine pure_ (i := 1) (N := some 20) (v := ?_) (a' := ?_) #[true, true, false, false, false, false, false, false, false, false] rfl rfl (any_of HT_.out (by kernel_rfl)) (fun _ _ _ h => h) (Or.inl ⟨by rfl, ?_⟩) ?_ ?_
                    rotate_left
                    · intro w'
                      go_simp
                      with_reducible rfl
                    rotate_left
                    · simp only [Act.put, List.setIfInBounds_toArray, List.set_cons_zero, List.set_cons_succ, i64_w, i32_w]
                      rfl
                    refine pure_ (i := 2) (N := some 21) (v := ?_) (a' := ?_) #[true, true, true, false, false, false, false, false, false, false] rfl rfl (any_of HT_.out (by kernel_rfl)) (fun _ _ _ h => h) (Or.inl ⟨by rfl, ?_⟩) ?_ ?_
                    rotate_left
                    · intro w'
                      go_simp
                      with_reducible rfl
                    rotate_left
                    · simp only [Act.put, List.setIfInBounds_toArray, List.set_cons_zero, List.set_cons_succ, i64_w, i32_w]
                      rfl
                    refine pure_ (i := 4) (N := some 23) (v := ?_) (a' := ?_) #[true, true, true, false, true, false, false, false, false, false] rfl rfl (any_of HT_.out (by kernel_rfl)) (fun _ _ _ h => h) (Or.inl ⟨by rfl, ?_⟩) ?_ ?_
                    rotate_left
                    · intro w'
                      go_simp
                      with_reducible rfl
                    rotate_left
                    · simp only [Act.put, List.setIfInBounds_toArray, List.set_cons_zero, List.set_cons_succ, i64_w, i32_w]
                      rfl
                    refine pure_ (i := 5) (N := some 24) (v := ?_) (a' := ?_) #[true, true, true, false, true, true, false, false, false, false] rfl rfl (any_of HT_.out (by kernel_rfl)) (fun _ _ _ h => h) (Or.inl ⟨by rfl, ?_⟩) ?_ ?_
                    rotate_left
                    · intro w'
                      go_simp
                      with_reducible rfl
                    rotate_left
                    · simp only [Act.put, List.setIfInBounds_toArray, List.set_cons_zero, List.set_cons_succ, i64_w, i32_w]
                      rfl
                    refine pure_ (i := 6) (N := some 25) (v := ?_) (a' := ?_) #[true, true, true, false, true, true, true, false, false, false] rfl rfl (any_of HT_.out (by kernel_rfl)) (fun _ _ _ h => h) (Or.inl ⟨by rfl, ?_⟩) ?_ ?_
                    rotate_left
                    · intro w'
                      go_simp
                      with_reducible rfl
                    rotate_left
                    · simp only [Act.put, List.setIfInBounds_toArray, List.set_cons_zero, List.set_cons_succ, i64_w, i32_w]
                      rfl
                    refine take_ (i := 3) (N := some 22) (v := ?_) (a' := ?_) #[true, true, true, true, true, true, true, false, false, false] rfl rfl (take_ofW HT_.out HW_.out (by kernel_rfl)) (fun _ _ _ h => h) (Or.inl ⟨by rfl, ?_⟩) hHeld ?_ ?_
                    rotate_left
                    · rintro w' ⟨s0, s1, s2, s3, s4, s5⟩
                      go_simp
                      with_reducible rfl
                    rotate_left
                    · simp only [Act.put, List.setIfInBounds_toArray, List.set_cons_zero, List.set_cons_succ, i64_w, i32_w]
                      rfl
                    refine take_ (i := 7) (N := some 26) (v := ?_) (a' := ?_) #[true, true, true, true, true, true, true, true, false, false] rfl rfl (take_ofW HT_.out HW_.out (by kernel_rfl)) (fun _ _ _ h => h) (Or.inl ⟨by rfl, ?_⟩) hHeld ?_ ?_
                    rotate_left
                    · rintro w' ⟨s0, s1, s2, s3, s4, s5⟩
                      go_simp
                      with_reducible rfl
                    rotate_left
                    · simp only [Act.put, List.setIfInBounds_toArray, List.set_cons_zero, List.set_cons_succ, i64_w, i32_w]
                      rfl
                    refine one_ (i := 8) (N := some 27) #[true, true, true, true, true, true, true, true, true, false] rfl rfl (one_of HT_.out (by kernel_rfl)) (by decide) (fun K hK => ?_)
                    refine goes_ Try.func27 (by kernel_rfl) rfl #[.agg #[.int .i64 ((rd_T24 l0 x5_1).f0), .int .i64 ((rd_T24 l0 x5_1).f1), .string ((rd_T24 l0 x5_1).f2)], .agg #[.int .i64 ((rd_T24 l1 x5_1).f0), .int .i64 ((rd_T24 l1 x5_1).f1), .string ((rd_T24 l1 x5_1).f2)]] (by rfl) rfl rfl (by (try simp only [List.map_toArray, List.map_cons, List.map_nil]); first | done | rfl | (simp only [List.length_drop, List.length_take]; rfl)) ?_
                    with_reducible refine (lintelref01_Compare.calls kj2 ((rd_T24 l0 x5_1).f0) ((rd_T24 l0 x5_1).f1) ((rd_T24 l0 x5_1).f2) ((rd_T24 l1 x5_1).f0) ((rd_T24 l1 x5_1).f1) ((rd_T24 l1 x5_1).f2) t171 _ A9.out).mono ?_
                    rintro e w12 ⟨rfl, hb⟩
                    refine ⟨_, rfl, ?_⟩
                    have n0_ := Aside0.mk (below_step (by repeat (first | (with_reducible first | exact HB.out | apply below_alloc | apply pw_below_drewN | apply below_drew1) | exact HB.out)) hb)
                    clear HB
                    have HB := n0_
                    clear n0_
                    (try clear hb)
                    (try clear hb2)
                    (try clear hk)
                    (try clear hi)
                    refine hK.out _ _ ⟨((HB.out.cell (World.block_lt_of_cell? w _ hw169_0)).trans hw169_0), ((HB.out.cell (World.block_lt_of_cell? w _ hw169_1)).trans hw169_1), ((HB.out.cell (World.block_lt_of_cell? w _ hw169_2)).trans hw169_2), ((HB.out.cell (World.block_lt_of_cell? w _ hw170_0)).trans hw170_0), ((HB.out.cell (World.block_lt_of_cell? w _ hw170_1)).trans hw170_1), ((HB.out.cell (World.block_lt_of_cell? w _ hw170_2)).trans hw170_2)⟩ (fun hHeld => ?_)
                    clear hK K
                    refine norm_ (a' := ?_) ?_ ?_
                    rotate_left
                    · show Act.put _ (some 27) _ = _
                      simp only [Act.put, List.setIfInBounds_toArray, List.set_cons_zero, List.set_cons_succ, i64_w, i32_w]
                      rfl
                    refine pure_ (i := 9) (N := some 6) (v := ?_) (a' := ?_) #[true, true, true, true, true, true, true, true, true, true] rfl rfl (any_of HT_.out (by kernel_rfl)) (fun _ _ _ h => h) (Or.inl ⟨by rfl, ?_⟩) ?_ ?_
                    rotate_left
                    · intro w'
                      go_simp
                      with_reducible rfl
                    rotate_left
                    · simp only [Act.put, List.setIfInBounds_toArray, List.set_cons_zero, List.set_cons_succ, i64_w, i32_w]
                      rfl
                    refine done_ (done_of HT_.out (by kernel_rfl)) ?_
                    try go_wp2
                    go_roundg kj2
                    case measure => have := HK1.out; have := HJ2.out; omega
                    case rel => exact ⟨(wrap64 (x5_1 + 1)), (by first | rfl | (simp; done) | (simp [*]; done)), H', ⟨by have := HK1.out; have := HJ2.out; omega⟩, ⟨by repeat (first | (with_reducible first | exact HB.out | apply below_alloc | apply pw_below_drewN | apply below_drew1) | exact HB.out)⟩⟩
                  · rw [if_neg c10] at H
                    have c10b0 : (t171 == 0) = false := beq_eq_false_iff_ne.mpr c10
                    have c10b1 : (t171 != 0) = true := bne_iff_ne.mpr c10
                    obtain rfl := Option.some.inj H
                    try go_wp2
                    have n0_ := Aside0.mk (below_drew1 HB.out)
                    clear HB
                    have HB := n0_
                    clear n0_
                    have p169 : 0 ≤ (x5_1 : Int) := of_decide_eq_true (by first | (with_reducible assumption) | assumption)
                    have q169 : x5_1 < (l0.length : Int) := of_decide_eq_true (by first | (with_reducible assumption) | assumption)
                    obtain ⟨ad169, e169, hx169_0, hx169_1, hx169_2⟩ := at_T24 HR0.out x5_1 p169 q169
                    have hw169_2 := hx169_2
                    have hw169_1 := hx169_1
                    have hw169_0 := hx169_0
                    cases e169
                    replace hx169_0 := (HB.out.cell (World.block_lt_of_cell? w _ hx169_0)).trans hx169_0
                    replace hx169_1 := (HB.out.cell (World.block_lt_of_cell? w _ hx169_1)).trans hx169_1
                    replace hx169_2 := (HB.out.cell (World.block_lt_of_cell? w _ hx169_2)).trans hx169_2
                    replace p169 := eq_true p169
                    replace q169 := eq_true q169
                    have p170 : 0 ≤ (x5_1 : Int) := of_decide_eq_true (by first | (with_reducible assumption) | assumption)
                    have q170 : x5_1 < (l1.length : Int) := of_decide_eq_true (by first | (with_reducible assumption) | assumption)
                    obtain ⟨ad170, e170, hx170_0, hx170_1, hx170_2⟩ := at_T24 HR1.out x5_1 p170 q170
                    have hw170_2 := hx170_2
                    have hw170_1 := hx170_1
                    have hw170_0 := hx170_0
                    cases e170
                    replace hx170_0 := (HB.out.cell (World.block_lt_of_cell? w _ hx170_0)).trans hx170_0
                    replace hx170_1 := (HB.out.cell (World.block_lt_of_cell? w _ hx170_1)).trans hx170_1
                    replace hx170_2 := (HB.out.cell (World.block_lt_of_cell? w _ hx170_2)).trans hx170_2
                    replace p170 := eq_true p170
                    replace q170 := eq_true q170
                    refine start_ (n := 10) (S := fun w' => w'.cell? (ad169.add ((x5_1).toNat * 3)) = some (.int .i64 ((rd_T24 l0 x5_1).f0)) ∧ w'.cell? ⟨(ad169.add ((x5_1).toNat * 3)).block, (ad169.add ((x5_1).toNat * 3)).off + 1, none⟩ = some (.int .i64 ((rd_T24 l0 x5_1).f1)) ∧ w'.cell? ⟨(ad169.add ((x5_1).toNat * 3)).block, (ad169.add ((x5_1).toNat * 3)).off + 2, none⟩ = some (.string ((rd_T24 l0 x5_1).f2)) ∧ w'.cell? (ad170.add ((x5_1).toNat * 3)) = some (.int .i64 ((rd_T24 l1 x5_1).f0)) ∧ w'.cell? ⟨(ad170.add ((x5_1).toNat * 3)).block, (ad170.add ((x5_1).toNat * 3)).off + 1, none⟩ = some (.int .i64 ((rd_T24 l1 x5_1).f1)) ∧ w'.cell? ⟨(ad170.add ((x5_1).toNat * 3)).block, (ad170.add ((x5_1).toNat * 3)).off + 2, none⟩ = some (.string ((rd_T24 l1 x5_1).f2))) (ds := []) #[false, false, false, false, false, false, false, false, false, false] (by kernel_rfl) rfl rfl ⟨((HB.out.cell (World.block_lt_of_cell? w _ hw169_0)).trans hw169_0), ((HB.out.cell (World.block_lt_of_cell? w _ hw169_1)).trans hw169_1), ((HB.out.cell (World.block_lt_of_cell? w _ hw169_2)).trans hw169_2), ((HB.out.cell (World.block_lt_of_cell? w _ hw170_0)).trans hw170_0), ((HB.out.cell (World.block_lt_of_cell? w _ hw170_1)).trans hw170_1), ((HB.out.cell (World.block_lt_of_cell? w _ hw170_2)).trans hw170_2)⟩ (fun hHeld => ?_); refine with_tabW lintelref02_Stands.tab4 lintelref02_Stands.bits4 (fun HT_ HW_ => ?_)
                    generalize wc.drew = w13 at HB hx169_0 hx169_1 hx169_2 hx170_0 hx170_1 hx170_2 hHeld ⊢
                    refine pure_ (i := 0) (N := some 19) (v := ?_) (a' := ?_) #[true, false, false, false, false, false, false, false, false, false] rfl rfl (any_of HT_.out (by kernel_rfl)) (fun _ _ _ h => h) (Or.inl ⟨by rfl, ?_⟩) ?_ ?_
                    rotate_left
                    · intro w'
                      go_simp
                      with_reducible rfl
                    rotate_left
                    · simp only [Act.put, List.setIfInBounds_toArray, List.set_cons_zero, List.set_cons_succ, i64_w, i32_w]
                      rfl
                    refine pure_ (i := 1) (N := some 20) (v := ?_) (a' := ?_) #[true, true, false, false, false, false, false, false, false, false] rfl rfl (any_of HT_.out (by kernel_rfl)) (fun _ _ _ h => h) (Or.inl ⟨by rfl, ?_⟩) ?_ ?_
                    rotate_left
                    · intro w'
                      go_simp
                      with_reducible rfl
                    rotate_left
                    · simp only [Act.put, List.setIfInBounds_toArray, List.set_cons_zero, List.set_cons_succ, i64_w, i32_w]
                      rfl
                    refine pure_ (i := 2) (N := some 21) (v := ?_) (a' := ?_) #[true, true, true, false, false, false, false, false, false, false] rfl rfl (any_of HT_.out (by kernel_rfl)) (fun _ _ _ h => h) (Or.inl ⟨by rfl, ?_⟩) ?_ ?_
                    rotate_left
                    · intro w'
                      go_simp
                      with_reducible rfl
                    rotate_left
                    · simp only [Act.put, List.setIfInBounds_toArray, List.set_cons_zero, List.set_cons_succ, i64_w, i32_w]
                      rfl
                    refine pure_ (i := 4) (N := some 23) (v := ?_) (a' := ?_) #[true, true, true, false, true, false, false, false, false, false] rfl rfl (any_of HT_.out (by kernel_rfl)) (fun _ _ _ h => h) (Or.inl ⟨by rfl, ?_⟩) ?_ ?_
                    rotate_left
                    · intro w'
                      go_simp
                      with_reducible rfl
                    rotate_left
                    · simp only [Act.put, List.setIfInBounds_toArray, List.set_cons_zero, List.set_cons_succ, i64_w, i32_w]
                      rfl
                    refine pure_ (i := 5) (N := some 24) (v := ?_) (a' := ?_) #[true, true, true, false, true, true, false, false, false, false] rfl rfl (any_of HT_.out (by kernel_rfl)) (fun _ _ _ h => h) (Or.inl ⟨by rfl, ?_⟩) ?_ ?_
                    rotate_left
                    · intro w'
                      go_simp
                      with_reducible rfl
                    rotate_left
                    · simp only [Act.put, List.setIfInBounds_toArray, List.set_cons_zero, List.set_cons_succ, i64_w, i32_w]
                      rfl
                    refine pure_ (i := 6) (N := some 25) (v := ?_) (a' := ?_) #[true, true, true, false, true, true, true, false, false, false] rfl rfl (any_of HT_.out (by kernel_rfl)) (fun _ _ _ h => h) (Or.inl ⟨by rfl, ?_⟩) ?_ ?_
                    rotate_left
                    · intro w'
                      go_simp
                      with_reducible rfl
                    rotate_left
                    · simp only [Act.put, List.setIfInBounds_toArray, List.set_cons_zero, List.set_cons_succ, i64_w, i32_w]
                      rfl
                    refine take_ (i := 3) (N := some 22) (v := ?_) (a' := ?_) #[true, true, true, true, true, true, true, false, false, false] rfl rfl (take_ofW HT_.out HW_.out (by kernel_rfl)) (fun _ _ _ h => h) (Or.inl ⟨by rfl, ?_⟩) hHeld ?_ ?_
                    rotate_left
                    · rintro w' ⟨s0, s1, s2, s3, s4, s5⟩
                      go_simp
                      with_reducible rfl
                    rotate_left
                    · simp only [Act.put, List.setIfInBounds_toArray, List.set_cons_zero, List.set_cons_succ, i64_w, i32_w]
                      rfl
                    refine take_ (i := 7) (N := some 26) (v := ?_) (a' := ?_) #[true, true, true, true, true, true, true, true, false, false] rfl rfl (take_ofW HT_.out HW_.out (by kernel_rfl)) (fun _ _ _ h => h) (Or.inl ⟨by rfl, ?_⟩) hHeld ?_ ?_
                    rotate_left
                    · rintro w' ⟨s0, s1, s2, s3, s4, s5⟩
                      go_simp
                      with_reducible rfl
                    rotate_left
                    · simp only [Act.put, List.setIfInBounds_toArray, List.set_cons_zero, List.set_cons_succ, i64_w, i32_w]
                      rfl
                    refine one_ (i := 8) (N := some 27) #[true, true, true, true, true, true, true, true, true, false] rfl rfl (one_of HT_.out (by kernel_rfl)) (by decide) (fun K hK => ?_)
                    refine goes_ Try.func27 (by kernel_rfl) rfl #[.agg #[.int .i64 ((rd_T24 l0 x5_1).f0), .int .i64 ((rd_T24 l0 x5_1).f1), .string ((rd_T24 l0 x5_1).f2)], .agg #[.int .i64 ((rd_T24 l1 x5_1).f0), .int .i64 ((rd_T24 l1 x5_1).f1), .string ((rd_T24 l1 x5_1).f2)]] (by rfl) rfl rfl (by (try simp only [List.map_toArray, List.map_cons, List.map_nil]); first | done | rfl | (simp only [List.length_drop, List.length_take]; rfl)) ?_
                    with_reducible refine (lintelref01_Compare.calls kj2 ((rd_T24 l0 x5_1).f0) ((rd_T24 l0 x5_1).f1) ((rd_T24 l0 x5_1).f2) ((rd_T24 l1 x5_1).f0) ((rd_T24 l1 x5_1).f1) ((rd_T24 l1 x5_1).f2) t171 _ A9.out).mono ?_
                    rintro e w14 ⟨rfl, hb⟩
                    refine ⟨_, rfl, ?_⟩
                    have n0_ := Aside0.mk (below_step (by repeat (first | (with_reducible first | exact HB.out | apply below_alloc | apply pw_below_drewN | apply below_drew1) | exact HB.out)) hb)
                    clear HB
                    have HB := n0_
                    clear n0_
                    (try clear hb)
                    (try clear hb2)
                    (try clear hk)
                    (try clear hi)
                    refine hK.out _ _ ⟨((HB.out.cell (World.block_lt_of_cell? w _ hw169_0)).trans hw169_0), ((HB.out.cell (World.block_lt_of_cell? w _ hw169_1)).trans hw169_1), ((HB.out.cell (World.block_lt_of_cell? w _ hw169_2)).trans hw169_2), ((HB.out.cell (World.block_lt_of_cell? w _ hw170_0)).trans hw170_0), ((HB.out.cell (World.block_lt_of_cell? w _ hw170_1)).trans hw170_1), ((HB.out.cell (World.block_lt_of_cell? w _ hw170_2)).trans hw170_2)⟩ (fun hHeld => ?_)
                    clear hK K
                    refine norm_ (a' := ?_) ?_ ?_
                    rotate_left
                    · show Act.put _ (some 27) _ = _
                      simp only [Act.put, List.setIfInBounds_toArray, List.set_cons_zero, List.set_cons_succ, i64_w, i32_w]
                      rfl
                    refine pure_ (i := 9) (N := some 6) (v := ?_) (a' := ?_) #[true, true, true, true, true, true, true, true, true, true] rfl rfl (any_of HT_.out (by kernel_rfl)) (fun _ _ _ h => h) (Or.inl ⟨by rfl, ?_⟩) ?_ ?_
                    rotate_left
                    · intro w'
                      go_simp
                      with_reducible rfl
                    rotate_left
                    · simp only [Act.put, List.setIfInBounds_toArray, List.set_cons_zero, List.set_cons_succ, i64_w, i32_w]
                      rfl
                    refine done_ (done_of HT_.out (by kernel_rfl)) ?_
                    try go_wp2
                    go_ret
                    exact ⟨by first | rfl | (simp [errW_none, errW_some] <;> rfl) | (simp [*, errW_none, errW_some] <;> rfl), by repeat (first | (with_reducible first | exact HB.out | apply below_alloc | apply pw_below_drewN | apply below_drew1) | exact HB.out)⟩
                · rw [if_neg c8] at H
                  exact absurd H (by simp)
              · rw [if_neg c7] at H
                exact absurd H (by simp)
            · rw [if_neg c6] at H
              exact absurd H (by simp)
          · replace c5 := Bool.eq_false_iff.mpr c5
            subst c5
            have H1 : (if (l0.length : Int) < (l1.length : Int) then (some (-1)) else (if (l0.length : Int) > (l1.length : Int) then (some 1) else (some 0))) = some r := by rw [if_neg (show ¬ (false = true) by decide)] at H; exact H
            clear H
            have H := H1
            clear H1
            by_cases c15 : (l0.length : Int) < (l1.length : Int)
            · rw [if_pos c15] at H
              have c15b0 : decide ((l0.length : Int) < (l1.length : Int)) = true := decide_eq_true c15
              have c15b1 : decide (l0.length < l1.length) = true := decide_eq_true (Int.ofNat_lt.mp c15)
              clear c15
              obtain rfl := Option.some.inj H
              go_wp2
              go_ret
              exact ⟨by first | rfl | (simp [errW_none, errW_some] <;> rfl) | (simp [*, errW_none, errW_some] <;> rfl), by repeat (first | (with_reducible first | exact HB.out | apply below_alloc | apply pw_below_drewN | apply below_drew1) | exact HB.out)⟩
            · rw [if_neg c15] at H
              have c15b0 : decide ((l0.length : Int) < (l1.length : Int)) = false := decide_eq_false c15
              have c15b1 : decide (l0.length < l1.length) = false := decide_eq_false (fun h => c15 (Int.ofNat_lt.mpr h))
              clear c15
              by_cases c16 : (l0.length : Int) > (l1.length : Int)
              · rw [if_pos c16] at H
                have c16b0 : decide ((l1.length : Int) < (l0.length : Int)) = true := decide_eq_true c16
                have c16b1 : decide (l1.length < l0.length) = true := decide_eq_true (Int.ofNat_lt.mp c16)
                clear c16
                obtain rfl := Option.some.inj H
                go_wp2
                go_ret
                exact ⟨by first | rfl | (simp [errW_none, errW_some] <;> rfl) | (simp [*, errW_none, errW_some] <;> rfl), by repeat (first | (with_reducible first | exact HB.out | apply below_alloc | apply pw_below_drewN | apply below_drew1) | exact HB.out)⟩
              · rw [if_neg c16] at H
                have c16b0 : decide ((l1.length : Int) < (l0.length : Int)) = false := decide_eq_false c16
                have c16b1 : decide (l1.length < l0.length) = false := decide_eq_false (fun h => c16 (Int.ofNat_lt.mpr h))
                clear c16
                obtain rfl := Option.some.inj H
                go_wp2
                go_ret
                exact ⟨by first | rfl | (simp [errW_none, errW_some] <;> rfl) | (simp [*, errW_none, errW_some] <;> rfl), by repeat (first | (with_reducible first | exact HB.out | apply below_alloc | apply pw_below_drewN | apply below_drew1) | exact HB.out)⟩

/-! ### lintelref02_In: function 17 -/
def lintelref02_In.f (k : Nat) (a0 : ByteArray) (a1_0 : ByteArray) (a1_1 : ByteArray) : Option (Bool) := (lintelref01_Stands.f k a1_0 a0).bind fun t173 => (if t173 ≤ 0 then ((lintelref01_Stands.f k a0 a1_1).bind fun t174 => (some (decide (t174 < 0)))) else (some false))
theorem lintelref02_In.mono : ∀ a0 a1 a2 k, LeO (lintelref02_In.f k a0 a1 a2) (lintelref02_In.f (k + 1) a0 a1 a2) := by
  intro a0 a1 a2 k
  unfold lintelref02_In.f
  repeat' first
      | (with_reducible exact lintelref01_Stands.mono _ _ _)
      | (with_reducible exact LeO.refl _)
      | (with_reducible exact LeO.none _)
      | (with_reducible refine LeO.ite ?_ ?_)
      | (with_reducible refine LeO.bind ?_ (fun _ => ?_))
      | exact lintelref01_Stands.mono _ _ _
      | exact LeO.none _
      | refine LeO.ite ?_ ?_
      | refine LeO.bind ?_ (fun _ => ?_)
set_option maxHeartbeats 8000000 in
set_option maxRecDepth 100000 in
theorem lintelref02_In.calls (k : Nat) (a0 : ByteArray) (a1_0 : ByteArray) (a1_1 : ByteArray) (r : Bool) (w : World) (h : lintelref02_In.f k a0 a1_0 a1_1 = some r) :
    Calls Try.prog 17 #[.string a0, .agg #[.string a1_0, .string a1_1]] w fun e w' => e = .returned (.bool r) ∧ Below w.heap.size w w' := by
  have hu44 := Try.underlying44
  have HB := Aside0.mk (Below.refl w.heap.size w)
  have H : ((lintelref01_Stands.f k a1_0 a0).bind fun t173 => (if t173 ≤ 0 then ((lintelref01_Stands.f k a0 a1_1).bind fun t174 => (some (decide (t174 < 0)))) else (some false))) = some r := h
  clear h
  replace H := Option.bind_eq_some_iff.mp H
  obtain ⟨t173, A30, H⟩ := H
  replace H : (if t173 ≤ 0 then ((lintelref01_Stands.f k a0 a1_1).bind fun t174 => (some (decide (t174 < 0)))) else (some false)) = some r := H
  have A3 := Aside0.mk A30
  clear A30
  by_cases c4 : t173 ≤ 0
  · rw [if_pos c4] at H
    have c4b0 : decide (t173 ≤ 0) = true := decide_eq_true c4
    clear c4
    replace H := Option.bind_eq_some_iff.mp H
    obtain ⟨t174, A50, H⟩ := H
    replace H : (some (decide (t174 < 0))) = some r := H
    have A5 := Aside0.mk A50
    clear A50
    obtain rfl := Option.some.inj H
    go_enter Try.func17, Try.ntmps17
    go_wp2_with (first | ((with_reducible refine gate_dst (N := 3) rfl ?_); refine box_event ?hg (N := 3) ?hd (cs := #[.string a1_0, .string a1_1]) (t := 44) ?hr ?_; (case hd => rfl); (case hg => rfl); (case hr => first | (go_simp; done) | (go_simp; rfl)); intro gb172 hg w6 hbox hb; have n0_ := Aside0.mk (below_step (by repeat (first | (with_reducible first | exact HB.out | apply below_alloc | apply pw_below_drewN | apply below_drew1) | exact HB.out)) hb); have n1_ := Aside0.mk (hbox); have n2_ := Aside0.mk ((by rw [hg]; exact (below_size (by repeat (first | (with_reducible first | exact HB.out | apply below_alloc | apply pw_below_drewN | apply below_drew1) | exact HB.out))) : w.heap.size ≤ gb172)); have n3_ := Aside0.mk ((by rw [hg]; exact (below_size (by repeat (first | (with_reducible first | exact HB.out | apply below_alloc | apply pw_below_drewN | apply below_drew1) | exact HB.out))) : w.heap.size ≤ gb172)); clear HB; have HB := n0_; have BK172 := n1_; have GW172 := n2_; have GE172 := n3_; clear n0_ n1_ n2_ n3_; clear hb hbox hg; have hcz7_0 : w6.cell? ⟨gb172, 0, none⟩ = some (.string a1_0) := (blk_cell BK172.out 0).trans rfl; have hcz7_1 : w6.cell? ⟨gb172, 1, none⟩ = some (.string a1_1) := (blk_cell BK172.out 1).trans rfl; have hfz7_0 := blk_frozen BK172.out 0; have hfz7_1 := blk_frozen BK172.out 1) | ((with_reducible refine gate_callee (f := 15) rfl ?_); refine goesL_ (some 8) rfl rfl Try.func15 (by kernel_rfl) rfl #[.string a1_0, .string a0] rfl (by (try simp only [List.map_toArray, List.map_cons, List.map_nil]); first | done | rfl | (simp only [List.length_drop, List.length_take]; rfl)) ?_; (with_reducible refine (lintelref01_Stands.calls k a1_0 a0 t173 _ A3.out).mono ?_); rintro e w' ⟨rfl, ⟨nd, rfl⟩⟩; refine ⟨_, rfl, ?_⟩) | (go_at_call 15; (with_reducible refine (lintelref01_Stands.calls k a0 a1_1 t174 _ A5.out).mono ?_); rintro e w' ⟨rfl, ⟨nd, rfl⟩⟩))
    go_ret
    exact ⟨by first | rfl | (simp [errW_none, errW_some] <;> rfl) | (simp [*, errW_none, errW_some] <;> rfl), by repeat (first | (with_reducible first | exact HB.out | apply below_alloc | apply pw_below_drewN | apply below_drew1 | refine below_set ?_ GE172.out) | exact HB.out)⟩
  · rw [if_neg c4] at H
    have c4b0 : decide (t173 ≤ 0) = false := decide_eq_false c4
    clear c4
    obtain rfl := Option.some.inj H
    go_enter Try.func17, Try.ntmps17
    go_wp2_with (first | ((with_reducible refine gate_dst (N := 3) rfl ?_); refine box_event ?hg (N := 3) ?hd (cs := #[.string a1_0, .string a1_1]) (t := 44) ?hr ?_; (case hd => rfl); (case hg => rfl); (case hr => first | (go_simp; done) | (go_simp; rfl)); intro gb172 hg w8 hbox hb; have n0_ := Aside0.mk (below_step (by repeat (first | (with_reducible first | exact HB.out | apply below_alloc | apply pw_below_drewN | apply below_drew1) | exact HB.out)) hb); have n1_ := Aside0.mk (hbox); have n2_ := Aside0.mk ((by rw [hg]; exact (below_size (by repeat (first | (with_reducible first | exact HB.out | apply below_alloc | apply pw_below_drewN | apply below_drew1) | exact HB.out))) : w.heap.size ≤ gb172)); have n3_ := Aside0.mk ((by rw [hg]; exact (below_size (by repeat (first | (with_reducible first | exact HB.out | apply below_alloc | apply pw_below_drewN | apply below_drew1) | exact HB.out))) : w.heap.size ≤ gb172)); clear HB; have HB := n0_; have BK172 := n1_; have GW172 := n2_; have GE172 := n3_; clear n0_ n1_ n2_ n3_; clear hb hbox hg; have hcz9_0 : w8.cell? ⟨gb172, 0, none⟩ = some (.string a1_0) := (blk_cell BK172.out 0).trans rfl; have hcz9_1 : w8.cell? ⟨gb172, 1, none⟩ = some (.string a1_1) := (blk_cell BK172.out 1).trans rfl; have hfz9_0 := blk_frozen BK172.out 0; have hfz9_1 := blk_frozen BK172.out 1) | ((with_reducible refine gate_callee (f := 15) rfl ?_); refine goesL_ (some 8) rfl rfl Try.func15 (by kernel_rfl) rfl #[.string a1_0, .string a0] rfl (by (try simp only [List.map_toArray, List.map_cons, List.map_nil]); first | done | rfl | (simp only [List.length_drop, List.length_take]; rfl)) ?_; (with_reducible refine (lintelref01_Stands.calls k a1_0 a0 t173 _ A3.out).mono ?_); rintro e w' ⟨rfl, ⟨nd, rfl⟩⟩; refine ⟨_, rfl, ?_⟩))
    go_ret
    exact ⟨by first | rfl | (simp [errW_none, errW_some] <;> rfl) | (simp [*, errW_none, errW_some] <;> rfl), by repeat (first | (with_reducible first | exact HB.out | apply below_alloc | apply pw_below_drewN | apply below_drew1 | refine below_set ?_ GE172.out) | exact HB.out)⟩

/-! ### keys_Under: function 18 -/
def keys_Under.f (a0 : ByteArray) : Option (ByteArray × ByteArray) := if a0.size + 1 ≤ 9223372036854775807 then (some (a0, a0 ++ (⟨#[255]⟩ : ByteArray))) else (none)
set_option maxHeartbeats 8000000 in
set_option maxRecDepth 100000 in
theorem keys_Under.calls (a0 : ByteArray) (r1 : ByteArray) (r2 : ByteArray) (w : World) (h : keys_Under.f a0 = some (r1, r2)) :
    Calls Try.prog 18 #[.string a0] w fun e w' => e = .returned (.agg #[.string r1, .string r2]) ∧ Below w.heap.size w w' := by
  have hu44 := Try.underlying44
  have HB := Aside0.mk (Below.refl w.heap.size w)
  have H : (if a0.size + 1 ≤ 9223372036854775807 then (some (a0, a0 ++ (⟨#[255]⟩ : ByteArray))) else (none)) = some (r1, r2) := h
  clear h
  by_cases c2 : a0.size + 1 ≤ 9223372036854775807
  · rw [if_pos c2] at H
    have c2b0 := eq_true c2
    have c2b1 : decide (a0.size + 1 ≤ 9223372036854775807) = true := decide_eq_true c2
    try have c2b2 : (9223372036854775807 < a0.size + 1) = False := eq_false (Nat.not_lt.2 c2)
    simp only [Option.some.injEq, Prod.mk.injEq] at H
    obtain ⟨rfl, rfl⟩ := H
    go_enter Try.func18, Try.ntmps18
    go_wp2_with (first | ((with_reducible refine gate_dst (N := 2) rfl ?_); refine box_event ?hg (N := 2) ?hd (cs := #[.string (⟨#[]⟩ : ByteArray), .string (⟨#[]⟩ : ByteArray)]) (t := 44) ?hr ?_; (case hd => rfl); (case hg => rfl); (case hr => first | (go_simp; done) | (go_simp; rfl)); intro gb175 hg w3 hbox hb; have n0_ := Aside0.mk (below_step (by repeat (first | (with_reducible first | exact HB.out | apply below_alloc | apply pw_below_drewN | apply below_drew1) | exact HB.out)) hb); have n1_ := Aside0.mk (hbox); have n2_ := Aside0.mk ((by rw [hg]; exact (below_size (by repeat (first | (with_reducible first | exact HB.out | apply below_alloc | apply pw_below_drewN | apply below_drew1) | exact HB.out))) : w.heap.size ≤ gb175)); have n3_ := Aside0.mk ((by rw [hg]; exact (below_size (by repeat (first | (with_reducible first | exact HB.out | apply below_alloc | apply pw_below_drewN | apply below_drew1) | exact HB.out))) : w.heap.size ≤ gb175)); clear HB; have HB := n0_; have BK175 := n1_; have GW175 := n2_; have GE175 := n3_; clear n0_ n1_ n2_ n3_; clear hb hbox hg; have hcz4_0 : w3.cell? ⟨gb175, 0, none⟩ = some (.string (⟨#[]⟩ : ByteArray)) := (blk_cell BK175.out 0).trans rfl; have hcz4_1 : w3.cell? ⟨gb175, 1, none⟩ = some (.string (⟨#[]⟩ : ByteArray)) := (blk_cell BK175.out 1).trans rfl; have hfz4_0 := blk_frozen BK175.out 0; have hfz4_1 := blk_frozen BK175.out 1))
    refine bodyPost_ret (results_cell_row rfl _ _ gb175 44 #[.string a0, .string (a0 ++ (⟨#[255]⟩ : ByteArray))] (0, 0) _ rfl (by (with_reducible repeat (first | refine blk_drewN ?_ _ | refine blk_drew ?_ | refine blk_alloc ?_ _)); refine blk_put (cs := #[.string a0, .string (⟨#[]⟩ : ByteArray)]) ?_ 1 _ rfl; (with_reducible repeat (first | refine blk_drewN ?_ _ | refine blk_drew ?_ | refine blk_alloc ?_ _)); refine blk_put (cs := #[.string (⟨#[]⟩ : ByteArray), .string (⟨#[]⟩ : ByteArray)]) ?_ 0 _ rfl; (with_reducible repeat (first | refine blk_drewN ?_ _ | refine blk_drew ?_ | refine blk_alloc ?_ _)); exact BK175.out) Try.underlying44 rfl (by kernel_rfl)) rfl ?_
    exact ⟨by first | rfl | (simp [errW_none, errW_some] <;> rfl) | (simp [*, errW_none, errW_some] <;> rfl), by repeat (first | (with_reducible first | exact HB.out | apply below_alloc | apply pw_below_drewN | apply below_drew1 | refine below_set ?_ GE175.out) | exact HB.out)⟩
  · rw [if_neg c2] at H
    exact absurd H (by simp)

/-- A state of type 53 at block g of W; what its slices lead to came in by w0. -/
def IsS53 (w0 W : World) (g : Nat) (f0 : ByteArray) : Prop := W.heap[g]? = some (.cells #[.string f0] 53 (0, 0)) ∧ w0.heap.size ≤ g
theorem IsS53.grown {w0 W : World} {g : Nat} {f0 : ByteArray} {W1 : World} {row : Option Nat} (h : IsS53 w0 W g f0) (hw : W.grownBy W1 row) (hne : some g ≠ row) : IsS53 w0 W1 g f0 := by
  obtain ⟨hb, hg⟩ := h
  exact ⟨blk_grown hb hw hne, hg⟩
theorem IsS53.own_neN {w0 W : World} {g : Nat} {f0 : ByteArray} {α : Type} {d : Kd α} {e : Nat} {base : Nat} {ok : Nat → Prop} {v : Value} {xs : List α} (h : IsS53 w0 W g f0) (ho : Kd.N d e W base ok v xs) (ht : e ≠ 53) : some g ≠ v.ownBlock := by
  obtain ⟨hb, hg⟩ := h
  exact Kd.N_ne ho hb ht
theorem IsS53.fresh {w0 W : World} {g : Nat} {f0 : ByteArray} (h : IsS53 w0 W g f0) : ∀ k, W.heap.size ≤ k → k ≠ g := by
  obtain ⟨hb, hg⟩ := h
  exact Kd.freshB hb
theorem IsS53.kept {w0 W : World} {g : Nat} {f0 : ByteArray} {W1 : World} {S : Nat → Prop} (h : IsS53 w0 W g f0) (hk : Kept W W1 S) (hne : ¬ S g) : IsS53 w0 W1 g f0 := by
  obtain ⟨hb, hg⟩ := h
  exact ⟨blk_kept hb hk hne, hg⟩
theorem IsS53.below {w0 W : World} {g : Nat} {f0 : ByteArray} {W1 : World} (h : IsS53 w0 W g f0) (hw : Below W.heap.size W W1) : IsS53 w0 W1 g f0 := h.grown (grown_of_below hw none) (by simp)
theorem IsS53.alloc {w0 W : World} {g : Nat} {f0 : ByteArray} (h : IsS53 w0 W g f0) (o : Obj) : IsS53 w0 (W.alloc o) g f0 := h.below (below_alloc (Below.refl _ _) o)
theorem IsS53.drewN {w0 W : World} {g : Nat} {f0 : ByteArray} (h : IsS53 w0 W g f0) (m : Nat) : IsS53 w0 (W.drewN m) g f0 := h
theorem IsS53.drew {w0 W : World} {g : Nat} {f0 : ByteArray} (h : IsS53 w0 W g f0) : IsS53 w0 W.drew g f0 := h
theorem IsS53.at_ {w0 W : World} {g : Nat} {f0 : ByteArray} {w' : World} {m : Nat} (hq : W.drewN m = w') (h : IsS53 w0 W g f0) : IsS53 w0 w' g f0 := by subst hq; exact IsS53.drewN h m
theorem IsS53.apart {w0 W : World} {g : Nat} {f0 : ByteArray} {α : Type} {d : Kd α} {e : Nat} {base : Nat} {ok : Nat → Prop} {v : Value} {xs : List α} (h : IsS53 w0 W g f0) (ho : d.R e W base ok v xs) (ht : ∀ q, q ∈ e :: d.E → q ≠ 53) : d.R e W base (fun k => ok k ∧ k ≠ g) v xs := by
  obtain ⟨hb, hg⟩ := h
  exact Kd.R_types ho hb ht
theorem IsS53.own_ne {w0 W : World} {g : Nat} {f0 : ByteArray} {α : Type} {d : Kd α} {e : Nat} {base : Nat} {ok : Nat → Prop} {v : Value} {xs : List α} (h : IsS53 w0 W g f0) (ho : d.R e W base ok v xs) (ht : e ≠ 53) : some g ≠ v.ownBlock := by
  obtain ⟨hb, hg⟩ := h
  exact Kd.R_ne ho hb ht
theorem IsS53.apartQ {w0 W : World} {g : Nat} {f0 : ByteArray} {α : Type} {d : Kd α} {e : Nat} {base : Nat} {ok : Nat → Prop} {v : Value} {xs : List α} (h : IsS53 w0 W g f0) (ho : d.Q e W base ok v xs) (ht : ∀ q, q ∈ e :: d.E → q ≠ 53) : d.Q e W base (fun k => ok k ∧ k ≠ g) v xs := by
  obtain ⟨hb, hg⟩ := h
  exact Kd.Q_types ho hb ht
theorem IsS53.own_neQ {w0 W : World} {g : Nat} {f0 : ByteArray} {α : Type} {d : Kd α} {e : Nat} {base : Nat} {ok : Nat → Prop} {v : Value} {xs : List α} (h : IsS53 w0 W g f0) (ho : d.Q e W base ok v xs) (ht : e ≠ 53) : some g ≠ v.ownBlock := by
  obtain ⟨hb, hg⟩ := h
  exact Kd.Q_ne ho hb ht
theorem IsS53.apartS {w0 W : World} {g : Nat} {f0 : ByteArray} {α : Type} {d : Kd α} {e : Nat} {base : Nat} {ok : Nat → Prop} {v : Value} {xs : List α} (h : IsS53 w0 W g f0) (ho : d.S e W base ok v xs) (ht : ∀ q, q ∈ e :: d.E → q ≠ 53) : d.S e W base (fun k => ok k ∧ k ≠ g) v xs := by
  obtain ⟨hb, hg⟩ := h
  exact Kd.S_types ho hb ht
theorem IsS53.own_neS {w0 W : World} {g : Nat} {f0 : ByteArray} {α : Type} {d : Kd α} {e : Nat} {base : Nat} {ok : Nat → Prop} {v : Value} {xs : List α} (h : IsS53 w0 W g f0) (ho : d.S e W base ok v xs) (ht : e ≠ 53) : some g ≠ v.ownBlock := by
  obtain ⟨hb, hg⟩ := h
  exact Kd.S_ne ho hb ht
theorem IsS53.lt {w0 W : World} {g : Nat} {f0 : ByteArray} (h : IsS53 w0 W g f0) : g < W.heap.size := by
  obtain ⟨hb, hg⟩ := h
  exact blk_lt hb
theorem IsS53.ge {w0 W : World} {g : Nat} {f0 : ByteArray} (h : IsS53 w0 W g f0) : w0.heap.size ≤ g := by
  obtain ⟨hb, hg⟩ := h
  exact hg
theorem IsS53.ne_blk {w0 W : World} {g : Nat} {f0 : ByteArray} {a : Nat} {cs : Array Value} {t : TypeId} {fr : Nat × Nat} (h : IsS53 w0 W g f0) (hb2 : W.heap[a]? = some (.cells cs t fr)) (ht : t ≠ 53) : g ≠ a := by
  obtain ⟨hb, hg⟩ := h
  rintro rfl
  rw [hb] at hb2
  injection hb2 with hb2
  injection hb2 with _ ht2
  exact ht ht2.symm
theorem IsS53.far {w0 W : World} {g : Nat} {f0 : ByteArray} {p : Addr} (h : IsS53 w0 W g f0) (hne : g ≠ p.block) (u : Value) : IsS53 w0 (W.setCell p u) g f0 := by
  obtain ⟨hb, hg⟩ := h
  exact ⟨blk_far hb hne u, hg⟩
theorem cellS53_0 {W : World} {g : Nat} {f0 : ByteArray} (h : W.heap[g]? = some (.cells #[.string f0] 53 (0, 0))) : W.cell? ⟨g, 0, none⟩ = some (.string f0) := (blk_cell h 0).trans rfl
theorem IsS53.set_0 {w0 W : World} {g : Nat} {f0 : ByteArray} (h : IsS53 w0 W g f0) (x : ByteArray) : IsS53 w0 (W.setCell ⟨g, 0, none⟩ (.string x)) g x := by
  obtain ⟨hb, hg⟩ := h
  exact ⟨by simpa using blk_set hb 0 (.string x), hg⟩
theorem IsS53.new (w0 W : World) (f0 : ByteArray) (hB : Below w0.heap.size w0 W) : IsS53 w0 (W.alloc (.cells #[.string f0] 53)) W.heap.size f0 := ⟨by simpa using heap_alloc_new W _, hB.size⟩

/-! ### keys_reader_null: function 23 -/
def keys_reader_null.f (s0_0 : ByteArray) : Option (Int × Int × ByteArray × Bool × ByteArray) := some (0, 0, (⟨#[]⟩ : ByteArray), true, s0_0)
set_option maxHeartbeats 8000000 in
set_option maxRecDepth 100000 in
theorem keys_reader_null.calls (g : Nat) (s0_0 : ByteArray) (r1 : Int) (r2 : Int) (r3 : ByteArray) (r4 : Bool) (r5 : ByteArray) (w0 w : World) (hI : IsS53 w0 w g s0_0) (hB : Below w0.heap.size w0 w) (h : keys_reader_null.f s0_0 = some (r1, r2, r3, r4, r5)) :
    Calls Try.prog 23 #[.pointer (some ⟨g, 0, none⟩)] w fun e w' => e = .returned (.tuple #[.agg #[.int .i64 r1, .int .i64 r2, .string r3], .bool r4]) ∧ IsS53 w0 w' g r5 ∧ Below w0.heap.size w0 w' ∧ KeepBut w w' g none := by
  have hu24 := Try.underlying24
  have HI0 := Aside0.mk hI
  have HK := Aside0.mk (KeepBut.refl w g none)
  have HL := Aside0.mk hB.size
  clear hI
  have HW0 := Aside0.mk hB.size
  have HB := Aside0.mk hB
  clear hB
  have H : (some (0, 0, (⟨#[]⟩ : ByteArray), true, s0_0)) = some (r1, r2, r3, r4, r5) := h
  clear h
  simp only [Option.some.injEq, Prod.mk.injEq] at H
  obtain ⟨rfl, rfl, rfl, rfl, rfl⟩ := H
  go_enter Try.func23, Try.ntmps23
  go_wp2_with (first | ((with_reducible refine gate_dst (N := 2) rfl ?_); refine box_event ?hg (N := 2) ?hd (cs := #[.int .i64 0, .int .i64 0, .string (⟨#[]⟩ : ByteArray)]) (t := 24) ?hr ?_; (case hd => rfl); (case hg => rfl); (case hr => first | (go_simp; done) | (go_simp; rfl)); intro gb176 hg w2 hbox hb; have n0_ := Aside0.mk (IsS53.below (by repeat (first | (with_reducible first | exact HI0.out | apply IsS53.alloc | apply IsS53.drewN | apply IsS53.drew | apply IsS53.set_0) | exact HI0.out)) hb); have n1_ := Aside0.mk (KeepBut.trans (by repeat (first | (with_reducible first | exact HK.out | apply KeepBut.set_ | apply keep_drewN | apply keep_drew | apply keep_alloc) | exact HK.out)) (KeepBut.of_below hb g none) (.inl rfl)); have n2_ := Aside0.mk (below_step (by repeat (first | (with_reducible first | exact HB.out | apply below_alloc | apply pw_below_drewN | apply below_drew1 | refine below_set ?_ (IsS53.ge HI0.out)) | exact HB.out)) hb); have n3_ := Aside0.mk (hbox); have n4_ := Aside0.mk ((by rw [hg]; exact (keep_size (w := w) (g := g) (row := none) (by repeat (first | (with_reducible first | exact HK.out | apply KeepBut.set_ | apply keep_drewN | apply keep_drew | apply keep_alloc) | exact HK.out))) : w.heap.size ≤ gb176)); have n5_ := Aside0.mk ((Nat.le_trans HW0.out (by rw [hg]; exact (keep_size (w := w) (g := g) (row := none) (by repeat (first | (with_reducible first | exact HK.out | apply KeepBut.set_ | apply keep_drewN | apply keep_drew | apply keep_alloc) | exact HK.out))) : w.heap.size ≤ gb176) : w0.heap.size ≤ gb176)); have n6_ := Aside0.mk ((by rw [hg]; exact Nat.ne_of_lt (IsS53.lt (show IsS53 w0 _ g s0_0 from by repeat (first | (with_reducible first | exact HI0.out | apply IsS53.alloc | apply IsS53.drewN | apply IsS53.drew | apply IsS53.set_0) | exact HI0.out))) : g ≠ gb176)); have n7_ := Aside0.mk ((by rw [hg]; exact Nat.ne_of_gt (IsS53.lt (show IsS53 w0 _ g s0_0 from by repeat (first | (with_reducible first | exact HI0.out | apply IsS53.alloc | apply IsS53.drewN | apply IsS53.drew | apply IsS53.set_0) | exact HI0.out))) : gb176 ≠ g)); clear HI0; clear HK; clear HB; have HI0 := n0_; have HK := n1_; have HB := n2_; have BK176 := n3_; have GW176 := n4_; have GE176 := n5_; have NB0_176 := n6_; have NB176_0 := n7_; clear n0_ n1_ n2_ n3_ n4_ n5_ n6_ n7_; clear hb hbox hg; have hnb3 := NB176_0.out; have hnc3 := NB0_176.out; have hcz4_0 : w2.cell? ⟨gb176, 0, none⟩ = some (.int .i64 0) := (blk_cell BK176.out 0).trans rfl; have hcz4_1 : w2.cell? ⟨gb176, 1, none⟩ = some (.int .i64 0) := (blk_cell BK176.out 1).trans rfl; have hcz4_2 : w2.cell? ⟨gb176, 2, none⟩ = some (.string (⟨#[]⟩ : ByteArray)) := (blk_cell BK176.out 2).trans rfl; have hfz4_0 := blk_frozen BK176.out 0; have hfz4_1 := blk_frozen BK176.out 1; have hfz4_2 := blk_frozen BK176.out 2))
  refine bodyPost_ret (results_ct rfl _ _ gb176 24 #[.int .i64 0, .int .i64 0, .string (⟨#[]⟩ : ByteArray)] (0, 0) _ rfl (by (with_reducible repeat (first | refine blk_drewN ?_ _ | refine blk_drew ?_ | refine blk_alloc ?_ _)); refine blk_put (cs := #[.int .i64 0, .int .i64 0, .string (⟨#[]⟩ : ByteArray)]) ?_ 2 _ rfl; (with_reducible repeat (first | refine blk_drewN ?_ _ | refine blk_drew ?_ | refine blk_alloc ?_ _)); refine blk_put (cs := #[.int .i64 0, .int .i64 0, .string (⟨#[]⟩ : ByteArray)]) ?_ 1 _ rfl; (with_reducible repeat (first | refine blk_drewN ?_ _ | refine blk_drew ?_ | refine blk_alloc ?_ _)); refine blk_put (cs := #[.int .i64 0, .int .i64 0, .string (⟨#[]⟩ : ByteArray)]) ?_ 0 _ rfl; (with_reducible repeat (first | refine blk_drewN ?_ _ | refine blk_drew ?_ | refine blk_alloc ?_ _)); exact BK176.out) Try.underlying24 rfl (by kernel_rfl)) rfl ?_
  exact ⟨by first | rfl | (simp [errW_none, errW_some] <;> rfl) | (simp [*, errW_none, errW_some] <;> rfl), by repeat (first | (with_reducible first | exact HI0.out | apply IsS53.alloc | apply IsS53.drewN | apply IsS53.drew | apply IsS53.set_0 | refine IsS53.far ?_ NB0_176.out _) | exact HI0.out), by repeat (first | (with_reducible first | exact HB.out | apply below_alloc | apply pw_below_drewN | apply below_drew1 | refine below_set ?_ (IsS53.ge HI0.out) | refine below_set ?_ GE176.out) | exact HB.out), by repeat (first | (with_reducible first | exact HK.out | apply KeepBut.set_ | apply keep_drewN | apply keep_drew | apply keep_alloc | refine keep_far ?_ GW176.out _) | exact HK.out)⟩

/-! ### keys_reader_number: function 24 -/
def keys_reader_number.l0 : Nat → Int → Int → ByteArray → Option (Int × Int × ByteArray × Bool × ByteArray)
  | 0, _, _, _ => none
  | k + 1, x4, x13, x1000 => if x13 < 8 then (if 0 ≤ x13 then (if x13 < (x1000.size : Int) then (keys_reader_number.l0 k (Go.bits .or .u64 (IntKind.u64.wrap (x4 * 256)) (IntKind.u64.wrap (bt x1000 x13))) (wrap64 (x13 + 1)) x1000) else (none)) else (none)) else (if 8 ≤ (x1000.size : Int) then (some (1, wrap64 (Go.bits .xor .u64 x4 9223372036854775808), (⟨#[]⟩ : ByteArray), true, x1000.extract 8 x1000.size)) else (none))
def keys_reader_number.f (k : Nat) (s0_0 : ByteArray) : Option (Int × Int × ByteArray × Bool × ByteArray) := if (s0_0.size : Int) < 8 then (some (0, 0, (⟨#[]⟩ : ByteArray), false, s0_0)) else (keys_reader_number.l0 k 0 0 s0_0)
theorem keys_reader_number.mono_l : ∀ k, (∀ y0 y1 y2, LeO (keys_reader_number.l0 k y0 y1 y2) (keys_reader_number.l0 (k + 1) y0 y1 y2))
  | 0 => fun _ _ _ r h => by simp [keys_reader_number.l0] at h
  | k + 1 => by
    have ih0 := keys_reader_number.mono_l k
    · intro y0 y1 y2
      unfold keys_reader_number.l0
      repeat' first
      | (with_reducible exact ih0 _ _ _)
      | (with_reducible exact LeO.refl _)
      | (with_reducible exact LeO.none _)
      | (with_reducible refine LeO.ite ?_ ?_)
      | (with_reducible refine LeO.bind ?_ (fun _ => ?_))
      | exact ih0 _ _ _
      | exact LeO.none _
      | refine LeO.ite ?_ ?_
      | refine LeO.bind ?_ (fun _ => ?_)
theorem keys_reader_number.mono : ∀ a0 k, LeO (keys_reader_number.f k a0) (keys_reader_number.f (k + 1) a0) := by
  intro a0 k
  have ih0 := keys_reader_number.mono_l k
  unfold keys_reader_number.f
  repeat' first
      | (with_reducible exact ih0 _ _ _)
      | (with_reducible exact LeO.refl _)
      | (with_reducible exact LeO.none _)
      | (with_reducible refine LeO.ite ?_ ?_)
      | (with_reducible refine LeO.bind ?_ (fun _ => ?_))
      | exact ih0 _ _ _
      | exact LeO.none _
      | refine LeO.ite ?_ ?_
      | refine LeO.bind ?_ (fun _ => ?_)
set_option maxHeartbeats 8000000 in
set_option maxRecDepth 100000 in
theorem keys_reader_number.calls (k : Nat) (g : Nat) (s0_0 : ByteArray) (r1 : Int) (r2 : Int) (r3 : ByteArray) (r4 : Bool) (r5 : ByteArray) (w0 w : World) (hI : IsS53 w0 w g s0_0) (hB : Below w0.heap.size w0 w) (h : keys_reader_number.f k s0_0 = some (r1, r2, r3, r4, r5)) :
    Calls Try.prog 24 #[.pointer (some ⟨g, 0, none⟩)] w fun e w' => e = .returned (.tuple #[.agg #[.int .i64 r1, .int .i64 r2, .string r3], .bool r4]) ∧ IsS53 w0 w' g r5 ∧ Below w0.heap.size w0 w' ∧ KeepBut w w' g none := by
  have hu24 := Try.underlying24
  have HI0 := Aside0.mk hI
  have HK := Aside0.mk (KeepBut.refl w g none)
  have HL := Aside0.mk hB.size
  clear hI
  have HW0 := Aside0.mk hB.size
  have HB := Aside0.mk hB
  clear hB
  have H : (if (s0_0.size : Int) < 8 then (some (0, 0, (⟨#[]⟩ : ByteArray), false, s0_0)) else (keys_reader_number.l0 k 0 0 s0_0)) = some (r1, r2, r3, r4, r5) := h
  clear h
  by_cases c2 : (s0_0.size : Int) < 8
  · rw [if_pos c2] at H
    have c2b0 : decide ((s0_0.size : Int) < 8) = true := decide_eq_true c2
    have c2b1 : decide (s0_0.size < 8) = true := decide_eq_true (by omega)
    clear c2
    simp only [Option.some.injEq, Prod.mk.injEq] at H
    obtain ⟨rfl, rfl, rfl, rfl, rfl⟩ := H
    go_enter Try.func24, Try.ntmps24
    go_wp2_with (first | ((with_reducible refine gate_dst (N := 2) rfl ?_); refine box_event ?hg (N := 2) ?hd (cs := #[.int .i64 0, .int .i64 0, .string (⟨#[]⟩ : ByteArray)]) (t := 24) ?hr ?_; (case hd => rfl); (case hg => rfl); (case hr => first | (go_simp; done) | (go_simp; rfl)); intro gb177 hg w3 hbox hb; have n0_ := Aside0.mk (IsS53.below (by repeat (first | (with_reducible first | exact HI0.out | apply IsS53.alloc | apply IsS53.drewN | apply IsS53.drew | apply IsS53.set_0) | exact HI0.out)) hb); have n1_ := Aside0.mk (KeepBut.trans (by repeat (first | (with_reducible first | exact HK.out | apply KeepBut.set_ | apply keep_drewN | apply keep_drew | apply keep_alloc) | exact HK.out)) (KeepBut.of_below hb g none) (.inl rfl)); have n2_ := Aside0.mk (below_step (by repeat (first | (with_reducible first | exact HB.out | apply below_alloc | apply pw_below_drewN | apply below_drew1 | refine below_set ?_ (IsS53.ge HI0.out)) | exact HB.out)) hb); have n3_ := Aside0.mk (hbox); have n4_ := Aside0.mk ((by rw [hg]; exact (keep_size (w := w) (g := g) (row := none) (by repeat (first | (with_reducible first | exact HK.out | apply KeepBut.set_ | apply keep_drewN | apply keep_drew | apply keep_alloc) | exact HK.out))) : w.heap.size ≤ gb177)); have n5_ := Aside0.mk ((Nat.le_trans HW0.out (by rw [hg]; exact (keep_size (w := w) (g := g) (row := none) (by repeat (first | (with_reducible first | exact HK.out | apply KeepBut.set_ | apply keep_drewN | apply keep_drew | apply keep_alloc) | exact HK.out))) : w.heap.size ≤ gb177) : w0.heap.size ≤ gb177)); have n6_ := Aside0.mk ((by rw [hg]; exact Nat.ne_of_lt (IsS53.lt (show IsS53 w0 _ g s0_0 from by repeat (first | (with_reducible first | exact HI0.out | apply IsS53.alloc | apply IsS53.drewN | apply IsS53.drew | apply IsS53.set_0) | exact HI0.out))) : g ≠ gb177)); have n7_ := Aside0.mk ((by rw [hg]; exact Nat.ne_of_gt (IsS53.lt (show IsS53 w0 _ g s0_0 from by repeat (first | (with_reducible first | exact HI0.out | apply IsS53.alloc | apply IsS53.drewN | apply IsS53.drew | apply IsS53.set_0) | exact HI0.out))) : gb177 ≠ g)); clear HI0; clear HK; clear HB; have HI0 := n0_; have HK := n1_; have HB := n2_; have BK177 := n3_; have GW177 := n4_; have GE177 := n5_; have NB0_177 := n6_; have NB177_0 := n7_; clear n0_ n1_ n2_ n3_ n4_ n5_ n6_ n7_; clear hb hbox hg; obtain ⟨HGz4, hgz4⟩ := HI0.out; have hcz4_0 := cellS53_0 HGz4; have hfz4_0 := blk_frozen HGz4 0; clear HGz4 hgz4; have hnb5 := NB177_0.out; have hnc5 := NB0_177.out; have hcz6_0 : w3.cell? ⟨gb177, 0, none⟩ = some (.int .i64 0) := (blk_cell BK177.out 0).trans rfl; have hcz6_1 : w3.cell? ⟨gb177, 1, none⟩ = some (.int .i64 0) := (blk_cell BK177.out 1).trans rfl; have hcz6_2 : w3.cell? ⟨gb177, 2, none⟩ = some (.string (⟨#[]⟩ : ByteArray)) := (blk_cell BK177.out 2).trans rfl; have hfz6_0 := blk_frozen BK177.out 0; have hfz6_1 := blk_frozen BK177.out 1; have hfz6_2 := blk_frozen BK177.out 2))
    refine bodyPost_ret (results_ct rfl _ _ gb177 24 #[.int .i64 0, .int .i64 0, .string (⟨#[]⟩ : ByteArray)] (0, 0) _ rfl (by (with_reducible repeat (first | refine blk_drewN ?_ _ | refine blk_drew ?_ | refine blk_alloc ?_ _)); refine blk_put (cs := #[.int .i64 0, .int .i64 0, .string (⟨#[]⟩ : ByteArray)]) ?_ 2 _ rfl; (with_reducible repeat (first | refine blk_drewN ?_ _ | refine blk_drew ?_ | refine blk_alloc ?_ _)); refine blk_put (cs := #[.int .i64 0, .int .i64 0, .string (⟨#[]⟩ : ByteArray)]) ?_ 1 _ rfl; (with_reducible repeat (first | refine blk_drewN ?_ _ | refine blk_drew ?_ | refine blk_alloc ?_ _)); refine blk_put (cs := #[.int .i64 0, .int .i64 0, .string (⟨#[]⟩ : ByteArray)]) ?_ 0 _ rfl; (with_reducible repeat (first | refine blk_drewN ?_ _ | refine blk_drew ?_ | refine blk_alloc ?_ _)); exact BK177.out) Try.underlying24 rfl (by kernel_rfl)) rfl ?_
    exact ⟨by first | rfl | (simp [errW_none, errW_some] <;> rfl) | (simp [*, errW_none, errW_some] <;> rfl), by repeat (first | (with_reducible first | exact HI0.out | apply IsS53.alloc | apply IsS53.drewN | apply IsS53.drew | apply IsS53.set_0 | refine IsS53.far ?_ NB0_177.out _) | exact HI0.out), by repeat (first | (with_reducible first | exact HB.out | apply below_alloc | apply pw_below_drewN | apply below_drew1 | refine below_set ?_ (IsS53.ge HI0.out) | refine below_set ?_ GE177.out) | exact HB.out), by repeat (first | (with_reducible first | exact HK.out | apply KeepBut.set_ | apply keep_drewN | apply keep_drew | apply keep_alloc | refine keep_far ?_ GW177.out _) | exact HK.out)⟩
  · rw [if_neg c2] at H
    have c2b0 : decide ((s0_0.size : Int) < 8) = false := decide_eq_false c2
    have c2b1 : decide (s0_0.size < 8) = false := decide_eq_false (by omega)
    clear c2
    have H' := Aside0.mk H
    clear H
    go_enter Try.func24, Try.ntmps24
    go_wp2_with (first | ((with_reducible refine gate_dst (N := 2) rfl ?_); refine box_event ?hg (N := 2) ?hd (cs := #[.int .i64 0, .int .i64 0, .string (⟨#[]⟩ : ByteArray)]) (t := 24) ?hr ?_; (case hd => rfl); (case hg => rfl); (case hr => first | (go_simp; done) | (go_simp; rfl)); intro gb177 hg w7 hbox hb; have n0_ := Aside0.mk (IsS53.below (by repeat (first | (with_reducible first | exact HI0.out | apply IsS53.alloc | apply IsS53.drewN | apply IsS53.drew | apply IsS53.set_0) | exact HI0.out)) hb); have n1_ := Aside0.mk (KeepBut.trans (by repeat (first | (with_reducible first | exact HK.out | apply KeepBut.set_ | apply keep_drewN | apply keep_drew | apply keep_alloc) | exact HK.out)) (KeepBut.of_below hb g none) (.inl rfl)); have n2_ := Aside0.mk (below_step (by repeat (first | (with_reducible first | exact HB.out | apply below_alloc | apply pw_below_drewN | apply below_drew1 | refine below_set ?_ (IsS53.ge HI0.out)) | exact HB.out)) hb); have n3_ := Aside0.mk (hbox); have n4_ := Aside0.mk ((by rw [hg]; exact (keep_size (w := w) (g := g) (row := none) (by repeat (first | (with_reducible first | exact HK.out | apply KeepBut.set_ | apply keep_drewN | apply keep_drew | apply keep_alloc) | exact HK.out))) : w.heap.size ≤ gb177)); have n5_ := Aside0.mk ((Nat.le_trans HW0.out (by rw [hg]; exact (keep_size (w := w) (g := g) (row := none) (by repeat (first | (with_reducible first | exact HK.out | apply KeepBut.set_ | apply keep_drewN | apply keep_drew | apply keep_alloc) | exact HK.out))) : w.heap.size ≤ gb177) : w0.heap.size ≤ gb177)); have n6_ := Aside0.mk ((by rw [hg]; exact Nat.ne_of_lt (IsS53.lt (show IsS53 w0 _ g s0_0 from by repeat (first | (with_reducible first | exact HI0.out | apply IsS53.alloc | apply IsS53.drewN | apply IsS53.drew | apply IsS53.set_0) | exact HI0.out))) : g ≠ gb177)); have n7_ := Aside0.mk ((by rw [hg]; exact Nat.ne_of_gt (IsS53.lt (show IsS53 w0 _ g s0_0 from by repeat (first | (with_reducible first | exact HI0.out | apply IsS53.alloc | apply IsS53.drewN | apply IsS53.drew | apply IsS53.set_0) | exact HI0.out))) : gb177 ≠ g)); clear HI0; clear HK; clear HB; have HI0 := n0_; have HK := n1_; have HB := n2_; have BK177 := n3_; have GW177 := n4_; have GE177 := n5_; have NB0_177 := n6_; have NB177_0 := n7_; clear n0_ n1_ n2_ n3_ n4_ n5_ n6_ n7_; clear hb hbox hg; obtain ⟨HGz8, hgz8⟩ := HI0.out; have hcz8_0 := cellS53_0 HGz8; have hfz8_0 := blk_frozen HGz8 0; clear HGz8 hgz8))
    go_loopg [4, 13] k (fun kq v4 v13 w' => ∃ (x4_1 : Int) (x13_1 : Int), v4 = .int .u64 x4_1 ∧ v13 = .int .i64 x13_1 ∧ Aside0 (keys_reader_number.l0 kq x4_1 x13_1 s0_0 = some (r1, r2, r3, r4, r5)) ∧ Aside0 (kq ≤ k) ∧ Aside0 (w'.heap[gb177]? = some (.cells #[.int .i64 0, .int .i64 0, .string (⟨#[]⟩ : ByteArray)] 24 (0, 0))) ∧ Aside0 (IsS53 w0 w' g s0_0) ∧ Aside0 (KeepBut w w' g none) ∧ Aside0 (Below w0.heap.size w0 w'))
    case atStart => exact ⟨(0), (0), (by first | rfl | (simp; done) | (simp [*]; done)), (by first | rfl | (simp; done) | (simp [*]; done)), H', ⟨Nat.le_refl _⟩, ⟨by (with_reducible repeat (first | refine blk_drewN ?_ _ | refine blk_drew ?_ | refine blk_alloc ?_ _)); exact BK177.out⟩, ⟨by repeat (first | (with_reducible first | exact HI0.out | apply IsS53.alloc | apply IsS53.drewN | apply IsS53.drew | apply IsS53.set_0 | refine IsS53.far ?_ NB0_177.out _) | exact HI0.out)⟩, ⟨by repeat (first | (with_reducible first | exact HK.out | apply KeepBut.set_ | apply keep_drewN | apply keep_drew | apply keep_alloc | refine keep_far ?_ GW177.out _) | exact HK.out)⟩, ⟨by repeat (first | (with_reducible first | exact HB.out | apply below_alloc | apply pw_below_drewN | apply below_drew1 | refine below_set ?_ (IsS53.ge HI0.out) | refine below_set ?_ GE177.out) | exact HB.out)⟩⟩
    case round =>
      clear H'
      try clear c2
      try clear c2b0
      try clear c2b1
      try clear p2
      try clear c5
      try clear hcz4_0
      try clear hcz6_0
      try clear hcz6_1
      try clear hcz6_2
      try clear hcz8_0
      try clear hfz4_0
      try clear hfz6_0
      try clear hfz6_1
      try clear hfz6_2
      try clear hfz8_0
      obtain ⟨x4_1, x13_1, rfl, rfl, HA, HK1, BK177, HI0, HK, HB⟩ := hrel
      cases gk with
      | zero => exact absurd HA.out (by simp [keys_reader_number.l0])
      | succ k1 =>
        have H := HA.out
        clear HA
        simp only [keys_reader_number.l0] at H
        by_cases c9 : x13_1 < 8
        · rw [if_pos c9] at H
          have c9b0 : decide (x13_1 < 8) = true := decide_eq_true c9
          clear c9
          by_cases c10 : 0 ≤ x13_1
          · rw [if_pos c10] at H
            have c10b0 : decide (0 ≤ x13_1) = true := decide_eq_true c10
            clear c10
            by_cases c11 : x13_1 < (s0_0.size : Int)
            · rw [if_pos c11] at H
              have c11b0 : decide (x13_1 < (s0_0.size : Int)) = true := decide_eq_true c11
              clear c11
              have H' := Aside0.mk H
              clear H
              obtain ⟨HGz13, hgz13⟩ := HI0.out
              have hcz13_0 := cellS53_0 HGz13
              have hfz13_0 := blk_frozen HGz13 0
              clear HGz13 hgz13
              have p12 : 0 ≤ (x13_1 : Int) := of_decide_eq_true (by first | (with_reducible assumption) | assumption)
              have q12 : x13_1 < (s0_0.size : Int) := of_decide_eq_true (by first | (with_reducible assumption) | assumption)
              have hx12 := bt_at s0_0 x13_1
              replace p12 := eq_true p12
              replace q12 := eq_true q12
              go_wp2
              go_roundg k1
              case measure => have := HK1.out; omega
              case rel => exact ⟨(Go.bits .or .u64 (IntKind.u64.wrap (x4_1 * 256)) (IntKind.u64.wrap (bt s0_0 x13_1))), (wrap64 (x13_1 + 1)), (by first | rfl | (simp; done) | (simp [*]; done)), (by first | rfl | (simp; done) | (simp [*]; done)), H', ⟨by have := HK1.out; omega⟩, ⟨by (with_reducible repeat (first | refine blk_drewN ?_ _ | refine blk_drew ?_ | refine blk_alloc ?_ _)); exact BK177.out⟩, ⟨by repeat (first | (with_reducible first | exact HI0.out | apply IsS53.alloc | apply IsS53.drewN | apply IsS53.drew | apply IsS53.set_0 | refine IsS53.far ?_ NB0_177.out _) | exact HI0.out)⟩, ⟨by repeat (first | (with_reducible first | exact HK.out | apply KeepBut.set_ | apply keep_drewN | apply keep_drew | apply keep_alloc | refine keep_far ?_ GW177.out _) | exact HK.out)⟩, ⟨by repeat (first | (with_reducible first | exact HB.out | apply below_alloc | apply pw_below_drewN | apply below_drew1 | refine below_set ?_ (IsS53.ge HI0.out) | refine below_set ?_ GE177.out) | exact HB.out)⟩⟩
            · rw [if_neg c11] at H
              exact absurd H (by simp)
          · rw [if_neg c10] at H
            exact absurd H (by simp)
        · rw [if_neg c9] at H
          have c9b0 : decide (x13_1 < 8) = false := decide_eq_false c9
          clear c9
          by_cases c14 : 8 ≤ (s0_0.size : Int)
          · rw [if_pos c14] at H
            have c14b0 := eq_true c14
            have c14b1 : decide (8 ≤ (s0_0.size : Int)) = true := decide_eq_true c14
            clear c14
            simp only [Option.some.injEq, Prod.mk.injEq] at H
            obtain ⟨rfl, rfl, rfl, rfl, rfl⟩ := H
            obtain ⟨HGz15, hgz15⟩ := HI0.out
            have hcz15_0 := cellS53_0 HGz15
            have hfz15_0 := blk_frozen HGz15 0
            clear HGz15 hgz15
            have hnb16 := NB177_0.out
            have hnc16 := NB0_177.out
            have hcz17_0 : wr.cell? ⟨gb177, 0, none⟩ = some (.int .i64 0) := (blk_cell BK177.out 0).trans rfl
            have hcz17_1 : wr.cell? ⟨gb177, 1, none⟩ = some (.int .i64 0) := (blk_cell BK177.out 1).trans rfl
            have hcz17_2 : wr.cell? ⟨gb177, 2, none⟩ = some (.string (⟨#[]⟩ : ByteArray)) := (blk_cell BK177.out 2).trans rfl
            have hfz17_0 := blk_frozen BK177.out 0
            have hfz17_1 := blk_frozen BK177.out 1
            have hfz17_2 := blk_frozen BK177.out 2
            go_wp2
            refine bodyPost_ret (results_ct rfl _ _ gb177 24 #[.int .i64 1, .int .i64 (wrap64 (Go.bits .xor .u64 x4_1 9223372036854775808)), .string (⟨#[]⟩ : ByteArray)] (0, 0) _ rfl (by (with_reducible repeat (first | refine blk_drewN ?_ _ | refine blk_drew ?_ | refine blk_alloc ?_ _)); refine blk_put (cs := #[.int .i64 1, .int .i64 (wrap64 (Go.bits .xor .u64 x4_1 9223372036854775808)), .string (⟨#[]⟩ : ByteArray)]) ?_ 2 _ rfl; (with_reducible repeat (first | refine blk_drewN ?_ _ | refine blk_drew ?_ | refine blk_alloc ?_ _)); refine blk_put (cs := #[.int .i64 1, .int .i64 0, .string (⟨#[]⟩ : ByteArray)]) ?_ 1 _ rfl; (with_reducible repeat (first | refine blk_drewN ?_ _ | refine blk_drew ?_ | refine blk_alloc ?_ _)); refine blk_put (cs := #[.int .i64 0, .int .i64 0, .string (⟨#[]⟩ : ByteArray)]) ?_ 0 _ rfl; (with_reducible repeat (first | refine blk_drewN ?_ _ | refine blk_drew ?_ | refine blk_alloc ?_ _)); refine blk_far ?_ NB177_0.out _; (with_reducible repeat (first | refine blk_drewN ?_ _ | refine blk_drew ?_ | refine blk_alloc ?_ _)); exact BK177.out) Try.underlying24 rfl (by kernel_rfl)) rfl ?_
            exact ⟨by first | rfl | (simp [errW_none, errW_some] <;> rfl) | (simp [*, errW_none, errW_some] <;> rfl), by repeat (first | (with_reducible first | exact HI0.out | apply IsS53.alloc | apply IsS53.drewN | apply IsS53.drew | apply IsS53.set_0 | refine IsS53.far ?_ NB0_177.out _) | exact HI0.out), by repeat (first | (with_reducible first | exact HB.out | apply below_alloc | apply pw_below_drewN | apply below_drew1 | refine below_set ?_ (IsS53.ge HI0.out) | refine below_set ?_ GE177.out) | exact HB.out), by repeat (first | (with_reducible first | exact HK.out | apply KeepBut.set_ | apply keep_drewN | apply keep_drew | apply keep_alloc | refine keep_far ?_ GW177.out _) | exact HK.out)⟩
          · rw [if_neg c14] at H
            exact absurd H (by simp)

end Go.Proofs.Ytaedejjbchpbfaa.PRef
