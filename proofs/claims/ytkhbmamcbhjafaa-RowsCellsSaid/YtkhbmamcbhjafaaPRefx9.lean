/- Plain Lean functions for Go functions, and their contracts: written by a program (the kit's printer) over a list of functions. -/
import Derived.Test.YtkhbmamcbhjafaaPRefx0
import Derived.Test.YtkhbmamcbhjafaaPRefx1
import Derived.Test.YtkhbmamcbhjafaaPRefx3
import Derived.Test.YtkhbmamcbhjafaaPRefx5
import Derived.Test.YtkhbmamcbhjafaaPRefx7
namespace Go.Proofs.Ytkhbmamcbhjafaa.PRef
open Go.RowKit Go.Proofs.YtkhbmamcbhjafaaW.PrintWords Go.Proofs.YtkhbmamcbhjafaaW.PrintLast Go.Proofs.YtkhbmamcbhjafaaW.PrintMore
attribute [local go_sem] max2_int min2_int max_two min_two max_three min_three max_four min_four   -- for this text's walks alone
set_option linter.unusedVariables false
set_option linter.unusedSimpArgs false

attribute [local go_sem high] eqA73
-- NOT PRINTED: function 18 (lintelref20_Get)

/-! ### lintelref20_SameCells: function 17 -/
def lintelref20_SameCells.l0 : Nat → List (S73) → List (S73) → Int → Option (Bool)
  | 0, _, _, _ => none
  | k + 1, x0, x1, x5 => if x5 < (x0.length : Int) then (if 0 ≤ x5 then (if x5 < (x1.length : Int) then (if (!(((rd_T73 x0 x5).f0) == ((rd_T73 x1 x5).f0)) || ((!(((rd_T73 x0 x5).f1.f0) == ((rd_T73 x1 x5).f1.f0)) || (!(((rd_T73 x0 x5).f1.f1) == ((rd_T73 x1 x5).f1.f1)) || (!((((rd_T73 x0 x5).f1.f2).toList) == (((rd_T73 x1 x5).f1.f2).toList))))))) = true then (some false) else (lintelref20_SameCells.l0 k x0 x1 (wrap64 (x5 + 1)))) else (none)) else (none)) else (some true)
def lintelref20_SameCells.f (k : Nat) (l0 : List (S73)) (l1 : List (S73)) : Option (Bool) := if (l0.length : Int) = (l1.length : Int) then (lintelref20_SameCells.l0 k l0 l1 0) else (some false)
theorem lintelref20_SameCells.mono_l : ∀ k, (∀ y0 y1 y2, LeO (lintelref20_SameCells.l0 k y0 y1 y2) (lintelref20_SameCells.l0 (k + 1) y0 y1 y2))
  | 0 => fun _ _ _ r h => by simp [lintelref20_SameCells.l0] at h
  | k + 1 => by
    have ih0 := lintelref20_SameCells.mono_l k
    · intro y0 y1 y2
      unfold lintelref20_SameCells.l0
      repeat' first
      | (with_reducible exact ih0 _ _ _)
      | (with_reducible exact LeO.refl _)
      | (with_reducible exact LeO.none _)
      | (with_reducible refine LeO.ite ?_ ?_)
      | (with_reducible refine LeO.bind ?_ (fun _ => ?_))
      | exact ih0 _ _ _
      | exact LeO.none _
      | refine LeO.ite ?_ ?_
      | refine LeO.bind ?_ (fun _ => ?_)
theorem lintelref20_SameCells.mono : ∀ a0 a1 k, LeO (lintelref20_SameCells.f k a0 a1) (lintelref20_SameCells.f (k + 1) a0 a1) := by
  intro a0 a1 k
  have ih0 := lintelref20_SameCells.mono_l k
  unfold lintelref20_SameCells.f
  repeat' first
      | (with_reducible exact ih0 _ _ _)
      | (with_reducible exact LeO.refl _)
      | (with_reducible exact LeO.none _)
      | (with_reducible refine LeO.ite ?_ ?_)
      | (with_reducible refine LeO.bind ?_ (fun _ => ?_))
      | exact ih0 _ _ _
      | exact LeO.none _
      | refine LeO.ite ?_ ?_
      | refine LeO.bind ?_ (fun _ => ?_)
set_option maxHeartbeats 8000000 in
set_option maxRecDepth 100000 in
theorem lintelref20_SameCells.calls (k : Nat) (A0 : Option Addr) (c0 : Nat) (l0 : List (S73)) (A1 : Option Addr) (c1 : Nat) (l1 : List (S73)) (r : Bool) (w : World) (hr0 : Kd.C k73 w A0 l0.length l0) (hc0 : l0.length ≤ c0) (hr1 : Kd.C k73 w A1 l1.length l1) (hc1 : l1.length ≤ c1) (h : lintelref20_SameCells.f k l0 l1 = some r) :
    Calls Try.prog 17 #[.slice A0 l0.length c0, .slice A1 l1.length c1] w fun e w' => e = .returned (.bool r) ∧ Drawn0 w w' := by
  have hu73 := Try.underlying73
  have HR0 := Aside0.mk hr0
  have HC0 := Aside0.mk hc0
  clear hr0 hc0
  have HR1 := Aside0.mk hr1
  have HC1 := Aside0.mk hc1
  clear hr1 hc1
  have H : (if (l0.length : Int) = (l1.length : Int) then (lintelref20_SameCells.l0 k l0 l1 0) else (some false)) = some r := h
  clear h
  by_cases c3 : (l0.length : Int) = (l1.length : Int)
  · rw [if_pos c3] at H
    have c3b0 : ((l0.length : Int) == (l1.length : Int)) = true := beq_iff_eq.mpr c3
    have c3b1 : ((l0.length : Int) != (l1.length : Int)) = false := bne_eq_false_iff_eq.mpr c3
    have c3b2 : (l0.length == l1.length) = true := by first | simpa using c3 | (simp at c3 ⊢; omega)
    clear c3
    have H' := Aside0.mk H
    clear H
    go_enter Try.func17, Try.ntmps17
    go_wp2
    repeat (go_quiet (fail); try go_wp2)
    go_loopg [5] k (fun kq v5 w' => ∃ (x5_1 : Int), v5 = .int .i64 x5_1 ∧ Aside0 (lintelref20_SameCells.l0 kq l0 l1 x5_1 = some r) ∧ Aside0 (kq ≤ k) ∧ Drawn0 w w')
    case atStart => exact ⟨(0), (by first | rfl | (simp; done) | (simp [*]; done)), H', ⟨Nat.le_refl _⟩, by repeat (first | exact Drawn0.refl _ | apply Drawn0.step)⟩
    case round =>
      clear H'
      try clear c1
      try clear p2
      try clear c3
      try clear c3b0
      try clear c3b1
      try clear c3b2
      obtain ⟨x5_1, rfl, HA, HK1, ⟨m1, rfl⟩⟩ := hrel
      cases gk with
      | zero => exact absurd HA.out (by simp [lintelref20_SameCells.l0])
      | succ k1 =>
        have H := HA.out
        clear HA
        simp only [lintelref20_SameCells.l0] at H
        by_cases c4 : x5_1 < (l0.length : Int)
        · rw [if_pos c4] at H
          have c4b0 : decide (x5_1 < (l0.length : Int)) = true := decide_eq_true c4
          clear c4
          by_cases c5 : 0 ≤ x5_1
          · rw [if_pos c5] at H
            have c5b0 : decide (0 ≤ x5_1) = true := decide_eq_true c5
            clear c5
            by_cases c6 : x5_1 < (l1.length : Int)
            · rw [if_pos c6] at H
              have c6b0 : decide (x5_1 < (l1.length : Int)) = true := decide_eq_true c6
              clear c6
              by_cases c7 : (!(((rd_T73 l0 x5_1).f0) == ((rd_T73 l1 x5_1).f0)) || ((!(((rd_T73 l0 x5_1).f1.f0) == ((rd_T73 l1 x5_1).f1.f0)) || (!(((rd_T73 l0 x5_1).f1.f1) == ((rd_T73 l1 x5_1).f1.f1)) || (!((((rd_T73 l0 x5_1).f1.f2).toList) == (((rd_T73 l1 x5_1).f1.f2).toList))))))) = true
              · rw [if_pos c7] at H
                have c7b0 : (!(((rd_T73 l0 x5_1).f0) == ((rd_T73 l1 x5_1).f0)) || ((!(((rd_T73 l0 x5_1).f1.f0) == ((rd_T73 l1 x5_1).f1.f0)) || (!(((rd_T73 l0 x5_1).f1.f1) == ((rd_T73 l1 x5_1).f1.f1)) || (!((((rd_T73 l0 x5_1).f1.f2).toList) == (((rd_T73 l1 x5_1).f1.f2).toList))))))) = true := c7
                clear c7
                obtain rfl := Option.some.inj H
                have p260 : 0 ≤ (x5_1 : Int) := of_decide_eq_true (by first | (with_reducible assumption) | assumption)
                have q260 : x5_1 < (l0.length : Int) := of_decide_eq_true (by first | (with_reducible assumption) | assumption)
                obtain ⟨ad260, e260, hx260_0, hx260_1, hx260_2, hx260_3⟩ := at_T73 HR0.out x5_1 p260 q260
                cases e260
                replace p260 := eq_true p260
                replace q260 := eq_true q260
                have p261 : 0 ≤ (x5_1 : Int) := of_decide_eq_true (by first | (with_reducible assumption) | assumption)
                have q261 : x5_1 < (l1.length : Int) := of_decide_eq_true (by first | (with_reducible assumption) | assumption)
                obtain ⟨ad261, e261, hx261_0, hx261_1, hx261_2, hx261_3⟩ := at_T73 HR1.out x5_1 p261 q261
                cases e261
                replace p261 := eq_true p261
                replace q261 := eq_true q261
                go_wp2
                repeat (go_quiet (fail); try go_wp2)
                go_ret
                exact ⟨by first | rfl | (simp; done) | (simp [*]; done), by repeat (first | exact Drawn0.refl _ | apply Drawn0.step)⟩
              · rw [if_neg c7] at H
                have c7b0 : (!(((rd_T73 l0 x5_1).f0) == ((rd_T73 l1 x5_1).f0)) || ((!(((rd_T73 l0 x5_1).f1.f0) == ((rd_T73 l1 x5_1).f1.f0)) || (!(((rd_T73 l0 x5_1).f1.f1) == ((rd_T73 l1 x5_1).f1.f1)) || (!((((rd_T73 l0 x5_1).f1.f2).toList) == (((rd_T73 l1 x5_1).f1.f2).toList))))))) = false := by simpa using c7
                clear c7
                have H' := Aside0.mk H
                clear H
                have p260 : 0 ≤ (x5_1 : Int) := of_decide_eq_true (by first | (with_reducible assumption) | assumption)
                have q260 : x5_1 < (l0.length : Int) := of_decide_eq_true (by first | (with_reducible assumption) | assumption)
                obtain ⟨ad260, e260, hx260_0, hx260_1, hx260_2, hx260_3⟩ := at_T73 HR0.out x5_1 p260 q260
                cases e260
                replace p260 := eq_true p260
                replace q260 := eq_true q260
                have p261 : 0 ≤ (x5_1 : Int) := of_decide_eq_true (by first | (with_reducible assumption) | assumption)
                have q261 : x5_1 < (l1.length : Int) := of_decide_eq_true (by first | (with_reducible assumption) | assumption)
                obtain ⟨ad261, e261, hx261_0, hx261_1, hx261_2, hx261_3⟩ := at_T73 HR1.out x5_1 p261 q261
                cases e261
                replace p261 := eq_true p261
                replace q261 := eq_true q261
                go_wp2
                repeat (go_quiet (fail); try go_wp2)
                go_roundg k1
                case measure => have := HK1.out; omega
                case rel => exact ⟨(wrap64 (x5_1 + 1)), (by first | rfl | (simp; done) | (simp [*]; done)), H', ⟨by have := HK1.out; omega⟩, by repeat (first | exact Drawn0.refl _ | apply Drawn0.step)⟩
            · rw [if_neg c6] at H
              exact absurd H (by simp)
          · rw [if_neg c5] at H
            exact absurd H (by simp)
        · rw [if_neg c4] at H
          have c4b0 : decide (x5_1 < (l0.length : Int)) = false := decide_eq_false c4
          clear c4
          obtain rfl := Option.some.inj H
          go_wp2
          repeat (go_quiet (fail); try go_wp2)
          go_ret
          exact ⟨by first | rfl | (simp; done) | (simp [*]; done), by repeat (first | exact Drawn0.refl _ | apply Drawn0.step)⟩
  · rw [if_neg c3] at H
    have c3b0 : ((l0.length : Int) == (l1.length : Int)) = false := beq_eq_false_iff_ne.mpr c3
    have c3b1 : ((l0.length : Int) != (l1.length : Int)) = true := bne_iff_ne.mpr c3
    have c3b2 : (l0.length == l1.length) = false := by first | simpa using c3 | (simp at c3 ⊢; omega)
    obtain rfl := Option.some.inj H
    go_enter Try.func17, Try.ntmps17
    go_wp2
    repeat (go_quiet (fail); try go_wp2)
    go_ret
    exact ⟨by first | rfl | (simp; done) | (simp [*]; done), by repeat (first | exact Drawn0.refl _ | apply Drawn0.step)⟩

/-! ### lintelref20_Of: function 26 -/
def lintelref20_Of.l0 : Nat → List (S73) → Int → Int → Option (Int × Int × ByteArray)
  | 0, _, _, _ => none
  | k + 1, x0, x1, x5 => if x5 < (x0.length : Int) then (if 0 ≤ x5 then (if ((rd_T73 x0 x5).f0) = x1 then (some ((rd_T73 x0 x5).f1.f0, (rd_T73 x0 x5).f1.f1, (rd_T73 x0 x5).f1.f2)) else (lintelref20_Of.l0 k x0 x1 (wrap64 (x5 + 1)))) else (none)) else (some (0, 0, (⟨#[]⟩ : ByteArray)))
def lintelref20_Of.f (k : Nat) (l0 : List (S73)) (a1 : Int) : Option (Int × Int × ByteArray) := lintelref20_Of.l0 k l0 a1 0
theorem lintelref20_Of.mono_l : ∀ k, (∀ y0 y1 y2, LeO (lintelref20_Of.l0 k y0 y1 y2) (lintelref20_Of.l0 (k + 1) y0 y1 y2))
  | 0 => fun _ _ _ r h => by simp [lintelref20_Of.l0] at h
  | k + 1 => by
    have ih0 := lintelref20_Of.mono_l k
    · intro y0 y1 y2
      unfold lintelref20_Of.l0
      repeat' first
      | (with_reducible exact ih0 _ _ _)
      | (with_reducible exact LeO.refl _)
      | (with_reducible exact LeO.none _)
      | (with_reducible refine LeO.ite ?_ ?_)
      | (with_reducible refine LeO.bind ?_ (fun _ => ?_))
      | exact ih0 _ _ _
      | exact LeO.none _
      | refine LeO.ite ?_ ?_
      | refine LeO.bind ?_ (fun _ => ?_)
theorem lintelref20_Of.mono : ∀ a0 a1 k, LeO (lintelref20_Of.f k a0 a1) (lintelref20_Of.f (k + 1) a0 a1) := by
  intro a0 a1 k
  have ih0 := lintelref20_Of.mono_l k
  unfold lintelref20_Of.f
  repeat' first
      | (with_reducible exact ih0 _ _ _)
      | (with_reducible exact LeO.refl _)
      | (with_reducible exact LeO.none _)
      | (with_reducible refine LeO.ite ?_ ?_)
      | (with_reducible refine LeO.bind ?_ (fun _ => ?_))
      | exact ih0 _ _ _
      | exact LeO.none _
      | refine LeO.ite ?_ ?_
      | refine LeO.bind ?_ (fun _ => ?_)
set_option maxHeartbeats 8000000 in
set_option maxRecDepth 100000 in
theorem lintelref20_Of.calls (k : Nat) (A0 : Option Addr) (c0 : Nat) (l0 : List (S73)) (a1 : Int) (r1 : Int) (r2 : Int) (r3 : ByteArray) (w : World) (hr0 : Kd.C k73 w A0 l0.length l0) (hc0 : l0.length ≤ c0) (h : lintelref20_Of.f k l0 a1 = some (r1, r2, r3)) :
    Calls Try.prog 26 #[.slice A0 l0.length c0, .int .i64 a1] w fun e w' => e = .returned (.agg #[.int .i64 r1, .int .i64 r2, .string r3]) ∧ Below w.heap.size w w' := by
  have hu36 := Try.underlying36
  have HR0 := Aside0.mk hr0
  have HC0 := Aside0.mk hc0
  clear hr0 hc0
  have HB := Aside0.mk (Below.refl w.heap.size w)
  have H : (lintelref20_Of.l0 k l0 a1 0) = some (r1, r2, r3) := h
  clear h
  have H' := Aside0.mk H
  clear H
  go_enter Try.func26, Try.ntmps26
  go_wp2_with (first | ((with_reducible refine gate_dst (N := 4) rfl ?_); refine box_event ?hg (N := 4) ?hd (cs := #[.int .i64 0, .int .i64 0, .string (⟨#[]⟩ : ByteArray)]) (t := 36) ?hr ?_; (case hd => rfl); (case hg => rfl); (case hr => first | (go_simp; done) | (go_simp; rfl)); intro gb262 hg w3 hbox hb; have n0_ := Aside0.mk (below_step (by repeat (first | (with_reducible first | exact HB.out | apply below_alloc | apply pw_below_drewN | apply below_drew1) | exact HB.out)) hb); have n1_ := Aside0.mk (hbox); have n2_ := Aside0.mk ((by rw [hg]; exact (below_size (by repeat (first | (with_reducible first | exact HB.out | apply below_alloc | apply pw_below_drewN | apply below_drew1) | exact HB.out))) : w.heap.size ≤ gb262)); have n3_ := Aside0.mk ((by rw [hg]; exact (below_size (by repeat (first | (with_reducible first | exact HB.out | apply below_alloc | apply pw_below_drewN | apply below_drew1) | exact HB.out))) : w.heap.size ≤ gb262)); clear HB; have HB := n0_; have BK262 := n1_; have GW262 := n2_; have GE262 := n3_; clear n0_ n1_ n2_ n3_; clear hb hbox hg))
  go_loopg [5] k (fun kq v5 w' => ∃ (x5_1 : Int) (x263000_1 : Int) (x263001_1 : Int) (x263002_1 : ByteArray), v5 = .int .i64 x5_1 ∧ Aside0 (lintelref20_Of.l0 kq l0 a1 x5_1 = some (r1, r2, r3)) ∧ Aside0 (kq ≤ k) ∧ Aside0 (w'.heap[gb262]? = some (.cells #[.int .i64 x263000_1, .int .i64 x263001_1, .string x263002_1] 36 (0, 0))) ∧ Aside0 (Below w.heap.size w w'))
  case atStart => exact ⟨(0), (0), (0), ((⟨#[]⟩ : ByteArray)), (by first | rfl | (simp; done) | (simp [*]; done)), H', ⟨Nat.le_refl _⟩, ⟨by (with_reducible repeat (first | refine blk_drewN ?_ _ | refine blk_drew ?_ | refine blk_alloc ?_ _)); exact BK262.out⟩, ⟨by repeat (first | (with_reducible first | exact HB.out | apply below_alloc | apply pw_below_drewN | apply below_drew1 | refine below_set ?_ GE262.out) | exact HB.out)⟩⟩
  case round =>
    clear H'
    try clear c2
    try clear p2
    obtain ⟨x5_1, x263000_1, x263001_1, x263002_1, rfl, HA, HK1, BK262, HB⟩ := hrel
    cases gk with
    | zero => exact absurd HA.out (by simp [lintelref20_Of.l0])
    | succ k1 =>
      have H := HA.out
      clear HA
      simp only [lintelref20_Of.l0] at H
      by_cases c4 : x5_1 < (l0.length : Int)
      · rw [if_pos c4] at H
        have c4b0 : decide (x5_1 < (l0.length : Int)) = true := decide_eq_true c4
        clear c4
        by_cases c5 : 0 ≤ x5_1
        · rw [if_pos c5] at H
          have c5b0 : decide (0 ≤ x5_1) = true := decide_eq_true c5
          clear c5
          by_cases c6 : ((rd_T73 l0 x5_1).f0) = a1
          · rw [if_pos c6] at H
            have c6b0 : (((rd_T73 l0 x5_1).f0) == a1) = true := beq_iff_eq.mpr c6
            have c6b1 : (((rd_T73 l0 x5_1).f0) != a1) = false := bne_eq_false_iff_eq.mpr c6
            clear c6
            simp only [Option.some.injEq, Prod.mk.injEq] at H
            obtain ⟨rfl, rfl, rfl⟩ := H
            have p263 : 0 ≤ (x5_1 : Int) := of_decide_eq_true (by first | (with_reducible assumption) | assumption)
            have q263 : x5_1 < (l0.length : Int) := of_decide_eq_true (by first | (with_reducible assumption) | assumption)
            obtain ⟨ad263, e263, hx263_0, hx263_1, hx263_2, hx263_3⟩ := at_T73 HR0.out x5_1 p263 q263
            cases e263
            replace hx263_0 := (HB.out.cell (World.block_lt_of_cell? w _ hx263_0)).trans hx263_0
            replace hx263_1 := (HB.out.cell (World.block_lt_of_cell? w _ hx263_1)).trans hx263_1
            replace hx263_2 := (HB.out.cell (World.block_lt_of_cell? w _ hx263_2)).trans hx263_2
            replace hx263_3 := (HB.out.cell (World.block_lt_of_cell? w _ hx263_3)).trans hx263_3
            replace p263 := eq_true p263
            replace q263 := eq_true q263
            have p264 : 0 ≤ (x5_1 : Int) := of_decide_eq_true (by first | (with_reducible assumption) | assumption)
            have q264 : x5_1 < (l0.length : Int) := of_decide_eq_true (by first | (with_reducible assumption) | assumption)
            obtain ⟨ad264, e264, hx264_0, hx264_1, hx264_2, hx264_3⟩ := at_T73 HR0.out x5_1 p264 q264
            obtain rfl : ad263 = ad264 := (by injection e264)
            replace hx264_0 := (HB.out.cell (World.block_lt_of_cell? w _ hx264_0)).trans hx264_0
            replace hx264_1 := (HB.out.cell (World.block_lt_of_cell? w _ hx264_1)).trans hx264_1
            replace hx264_2 := (HB.out.cell (World.block_lt_of_cell? w _ hx264_2)).trans hx264_2
            replace hx264_3 := (HB.out.cell (World.block_lt_of_cell? w _ hx264_3)).trans hx264_3
            replace p264 := eq_true p264
            replace q264 := eq_true q264
            have hcz7_0 : wr.cell? ⟨gb262, 0, none⟩ = some (.int .i64 x263000_1) := (blk_cell BK262.out 0).trans rfl
            have hcz7_1 : wr.cell? ⟨gb262, 1, none⟩ = some (.int .i64 x263001_1) := (blk_cell BK262.out 1).trans rfl
            have hcz7_2 : wr.cell? ⟨gb262, 2, none⟩ = some (.string x263002_1) := (blk_cell BK262.out 2).trans rfl
            have hfz7_0 := blk_frozen BK262.out 0
            have hfz7_1 := blk_frozen BK262.out 1
            have hfz7_2 := blk_frozen BK262.out 2
            go_wp2
            refine bodyPost_ret (results_cell_row rfl _ _ gb262 36 #[.int .i64 ((rd_T73 l0 x5_1).f1.f0), .int .i64 ((rd_T73 l0 x5_1).f1.f1), .string ((rd_T73 l0 x5_1).f1.f2)] (0, 0) _ rfl (by (with_reducible repeat (first | refine blk_drewN ?_ _ | refine blk_drew ?_ | refine blk_alloc ?_ _)); refine blk_put (cs := #[.int .i64 ((rd_T73 l0 x5_1).f1.f0), .int .i64 ((rd_T73 l0 x5_1).f1.f1), .string x263002_1]) ?_ 2 _ rfl; (with_reducible repeat (first | refine blk_drewN ?_ _ | refine blk_drew ?_ | refine blk_alloc ?_ _)); refine blk_put (cs := #[.int .i64 ((rd_T73 l0 x5_1).f1.f0), .int .i64 x263001_1, .string x263002_1]) ?_ 1 _ rfl; (with_reducible repeat (first | refine blk_drewN ?_ _ | refine blk_drew ?_ | refine blk_alloc ?_ _)); refine blk_put (cs := #[.int .i64 x263000_1, .int .i64 x263001_1, .string x263002_1]) ?_ 0 _ rfl; (with_reducible repeat (first | refine blk_drewN ?_ _ | refine blk_drew ?_ | refine blk_alloc ?_ _)); exact BK262.out) Try.underlying36 rfl (by kernel_rfl)) rfl ?_
            exact ⟨by first | rfl | (simp [errW_none, errW_some] <;> rfl) | (simp [*, errW_none, errW_some] <;> rfl), by repeat (first | (with_reducible first | exact HB.out | apply below_alloc | apply pw_below_drewN | apply below_drew1 | refine below_set ?_ GE262.out) | exact HB.out)⟩
          · rw [if_neg c6] at H
            have c6b0 : (((rd_T73 l0 x5_1).f0) == a1) = false := beq_eq_false_iff_ne.mpr c6
            have c6b1 : (((rd_T73 l0 x5_1).f0) != a1) = true := bne_iff_ne.mpr c6
            have H' := Aside0.mk H
            clear H
            have p263 : 0 ≤ (x5_1 : Int) := of_decide_eq_true (by first | (with_reducible assumption) | assumption)
            have q263 : x5_1 < (l0.length : Int) := of_decide_eq_true (by first | (with_reducible assumption) | assumption)
            obtain ⟨ad263, e263, hx263_0, hx263_1, hx263_2, hx263_3⟩ := at_T73 HR0.out x5_1 p263 q263
            cases e263
            replace hx263_0 := (HB.out.cell (World.block_lt_of_cell? w _ hx263_0)).trans hx263_0
            replace hx263_1 := (HB.out.cell (World.block_lt_of_cell? w _ hx263_1)).trans hx263_1
            replace hx263_2 := (HB.out.cell (World.block_lt_of_cell? w _ hx263_2)).trans hx263_2
            replace hx263_3 := (HB.out.cell (World.block_lt_of_cell? w _ hx263_3)).trans hx263_3
            replace p263 := eq_true p263
            replace q263 := eq_true q263
            go_wp2
            go_roundg k1
            case measure => have := HK1.out; omega
            case rel => exact ⟨(wrap64 (x5_1 + 1)), (x263000_1), (x263001_1), (x263002_1), (by first | rfl | (simp; done) | (simp [*]; done)), H', ⟨by have := HK1.out; omega⟩, ⟨by (with_reducible repeat (first | refine blk_drewN ?_ _ | refine blk_drew ?_ | refine blk_alloc ?_ _)); exact BK262.out⟩, ⟨by repeat (first | (with_reducible first | exact HB.out | apply below_alloc | apply pw_below_drewN | apply below_drew1 | refine below_set ?_ GE262.out) | exact HB.out)⟩⟩
        · rw [if_neg c5] at H
          exact absurd H (by simp)
      · rw [if_neg c4] at H
        have c4b0 : decide (x5_1 < (l0.length : Int)) = false := decide_eq_false c4
        clear c4
        simp only [Option.some.injEq, Prod.mk.injEq] at H
        obtain ⟨rfl, rfl, rfl⟩ := H
        have hcz8_0 : wr.cell? ⟨gb262, 0, none⟩ = some (.int .i64 x263000_1) := (blk_cell BK262.out 0).trans rfl
        have hcz8_1 : wr.cell? ⟨gb262, 1, none⟩ = some (.int .i64 x263001_1) := (blk_cell BK262.out 1).trans rfl
        have hcz8_2 : wr.cell? ⟨gb262, 2, none⟩ = some (.string x263002_1) := (blk_cell BK262.out 2).trans rfl
        have hfz8_0 := blk_frozen BK262.out 0
        have hfz8_1 := blk_frozen BK262.out 1
        have hfz8_2 := blk_frozen BK262.out 2
        go_wp2
        refine bodyPost_ret (results_cell_row rfl _ _ gb262 36 #[.int .i64 0, .int .i64 0, .string (⟨#[]⟩ : ByteArray)] (0, 0) _ rfl (by (with_reducible repeat (first | refine blk_drewN ?_ _ | refine blk_drew ?_ | refine blk_alloc ?_ _)); refine blk_put (cs := #[.int .i64 0, .int .i64 0, .string x263002_1]) ?_ 2 _ rfl; (with_reducible repeat (first | refine blk_drewN ?_ _ | refine blk_drew ?_ | refine blk_alloc ?_ _)); refine blk_put (cs := #[.int .i64 0, .int .i64 x263001_1, .string x263002_1]) ?_ 1 _ rfl; (with_reducible repeat (first | refine blk_drewN ?_ _ | refine blk_drew ?_ | refine blk_alloc ?_ _)); refine blk_put (cs := #[.int .i64 x263000_1, .int .i64 x263001_1, .string x263002_1]) ?_ 0 _ rfl; (with_reducible repeat (first | refine blk_drewN ?_ _ | refine blk_drew ?_ | refine blk_alloc ?_ _)); exact BK262.out) Try.underlying36 rfl (by kernel_rfl)) rfl ?_
        exact ⟨by first | rfl | (simp [errW_none, errW_some] <;> rfl) | (simp [*, errW_none, errW_some] <;> rfl), by repeat (first | (with_reducible first | exact HB.out | apply below_alloc | apply pw_below_drewN | apply below_drew1 | refine below_set ?_ GE262.out) | exact HB.out)⟩

/-! ### lintelref20_Entry: function 25 -/
def lintelref20_Entry.f (k : Nat) (a0 : Int) (a1_0 : Int) (a1_1 : Int) (a1_2 : ByteArray) (a2_0 : Int) (a2_1 : Int) (a2_2 : ByteArray) : Option (ByteArray) := (lintelref20_Num.f 1).bind fun bt267 => ((lintelref20_Num.f a0).bind fun bt270 => ((lintelref02_Encode.f k (([(⟨bt267.1, bt267.2.1, bt267.2.2⟩ : S36), (⟨bt270.1, bt270.2.1, bt270.2.2⟩ : S36), (⟨a1_0, a1_1, a1_2⟩ : S36), (⟨a2_0, a2_1, a2_2⟩ : S36)] : List (S36)))).bind fun bt276 => (some bt276.1)))
theorem lintelref20_Entry.mono : ∀ a0 a1 a2 a3 a4 a5 a6 k, LeO (lintelref20_Entry.f k a0 a1 a2 a3 a4 a5 a6) (lintelref20_Entry.f (k + 1) a0 a1 a2 a3 a4 a5 a6) := by
  intro a0 a1 a2 a3 a4 a5 a6 k
  unfold lintelref20_Entry.f
  repeat' first
      | (with_reducible exact lintelref02_Encode.mono _ _)
      | (with_reducible exact LeO.refl _)
      | (with_reducible exact LeO.none _)
      | (with_reducible refine LeO.ite ?_ ?_)
      | (with_reducible refine LeO.bind ?_ (fun _ => ?_))
      | exact lintelref02_Encode.mono _ _
      | exact LeO.none _
      | refine LeO.ite ?_ ?_
      | refine LeO.bind ?_ (fun _ => ?_)
def lintelref20_Entry.T1 : Bool × List (List Nat × List Nat) := (true, [([], []), ([], []), ([1, 0], [1]), ([], []), ([], []), ([0, 2, 3, 4], [0, 2, 3, 4]), ([5, 2], [5]), ([6], [6]), ([7], [7]), ([7], [7]), ([8, 6, 0, 1, 2, 3, 4, 5, 6, 7, 8], [8]), ([9, 10, 0, 1, 2, 3, 4, 5, 6, 7, 8, 9, 10], [9])])
def lintelref20_Entry.B1 : List Nat := [0, 0, 3, 0, 0, 31, 63, 127, 255, 255, 511, 2047]
theorem lintelref20_Entry.tab1 : rtab .any (opsOf Try.f25 1) = lintelref20_Entry.T1 := by kernel_rfl
theorem lintelref20_Entry.bits1 : waitsOk lintelref20_Entry.T1.2 lintelref20_Entry.B1 = true := by kernel_rfl
set_option maxHeartbeats 8000000 in
set_option maxRecDepth 100000 in
theorem lintelref20_Entry.calls (k : Nat) (a0 : Int) (a1_0 : Int) (a1_1 : Int) (a1_2 : ByteArray) (a2_0 : Int) (a2_1 : Int) (a2_2 : ByteArray) (r : ByteArray) (w : World) (h : lintelref20_Entry.f k a0 a1_0 a1_1 a1_2 a2_0 a2_1 a2_2 = some r) :
    Calls Try.prog 25 #[.int .i64 a0, .agg #[.int .i64 a1_0, .int .i64 a1_1, .string a1_2], .agg #[.int .i64 a2_0, .int .i64 a2_1, .string a2_2]] w fun e w' => e = .returned (.string r) ∧ Below w.heap.size w w' := by
  have hu36 := Try.underlying36
  have HB := Aside0.mk (Below.refl w.heap.size w)
  have H : ((lintelref20_Num.f 1).bind fun bt267 => ((lintelref20_Num.f a0).bind fun bt270 => ((lintelref02_Encode.f k (([(⟨bt267.1, bt267.2.1, bt267.2.2⟩ : S36), (⟨bt270.1, bt270.2.1, bt270.2.2⟩ : S36), (⟨a1_0, a1_1, a1_2⟩ : S36), (⟨a2_0, a2_1, a2_2⟩ : S36)] : List (S36)))).bind fun bt276 => (some bt276.1)))) = some r := h
  clear h
  replace H := Option.bind_eq_some_iff.mp H
  obtain ⟨⟨t267, t268, t269⟩, A40, H⟩ := H
  replace H : ((lintelref20_Num.f a0).bind fun bt270 => ((lintelref02_Encode.f k (([(⟨t267, t268, t269⟩ : S36), (⟨bt270.1, bt270.2.1, bt270.2.2⟩ : S36), (⟨a1_0, a1_1, a1_2⟩ : S36), (⟨a2_0, a2_1, a2_2⟩ : S36)] : List (S36)))).bind fun bt276 => (some bt276.1))) = some r := H
  have A4 := Aside0.mk A40
  clear A40
  replace H := Option.bind_eq_some_iff.mp H
  obtain ⟨⟨t270, t271, t272⟩, A50, H⟩ := H
  replace H : ((lintelref02_Encode.f k (([(⟨t267, t268, t269⟩ : S36), (⟨t270, t271, t272⟩ : S36), (⟨a1_0, a1_1, a1_2⟩ : S36), (⟨a2_0, a2_1, a2_2⟩ : S36)] : List (S36)))).bind fun bt276 => (some bt276.1)) = some r := H
  have A5 := Aside0.mk A50
  clear A50
  obtain ⟨y273, hy273⟩ : ∃ y_ : List (S36), y_ = (([(⟨t267, t268, t269⟩ : S36), (⟨t270, t271, t272⟩ : S36), (⟨a1_0, a1_1, a1_2⟩ : S36), (⟨a2_0, a2_1, a2_2⟩ : S36)] : List (S36))) := ⟨_, rfl⟩
  replace H : ((lintelref02_Encode.f k y273).bind fun bt276 => (some bt276.1)) = some r := by first | (rw [hy273]; with_reducible exact H) | (have H2_ := (Option.bind_some _ _).symm.trans H; rw [hy273]; with_reducible exact H2_) | (have H2_ := (Option.bind_some _ _).symm.trans H; with_reducible exact H2_) | with_reducible exact H | (rw [hy273]; exact H) | exact H
  have Ny273 := Aside0.mk hy273
  clear hy273
  replace H := Option.bind_eq_some_iff.mp H
  obtain ⟨⟨t276, t277⟩, A60, H⟩ := H
  replace H : (some t276) = some r := H
  have A6 := Aside0.mk A60
  clear A60
  obtain rfl := Option.some.inj H
  go_enter Try.func25, Try.ntmps25
  try go_wp2_with (first | ((with_reducible refine gate_dst (N := 4) rfl ?_); refine box_event ?hg (N := 4) ?hd (cs := #[.int .i64 a1_0, .int .i64 a1_1, .string a1_2]) (t := 36) ?hr ?_; (case hd => rfl); (case hg => rfl); (case hr => first | (go_simp; done) | (go_simp; rfl)); intro gb265 hg w7 hbox hb; have n0_ := Aside0.mk (below_step (by repeat (first | (with_reducible first | exact HB.out | apply below_alloc | apply pw_below_drewN | apply below_drew1) | exact HB.out)) hb); have n1_ := Aside0.mk (hbox); have n2_ := Aside0.mk ((by rw [hg]; exact (below_size (by repeat (first | (with_reducible first | exact HB.out | apply below_alloc | apply pw_below_drewN | apply below_drew1) | exact HB.out))) : w.heap.size ≤ gb265)); have n3_ := Aside0.mk ((by rw [hg]; exact (below_size (by repeat (first | (with_reducible first | exact HB.out | apply below_alloc | apply pw_below_drewN | apply below_drew1) | exact HB.out))) : w.heap.size ≤ gb265)); clear HB; have HB := n0_; have BK265 := n1_; have GW265 := n2_; have GE265 := n3_; clear n0_ n1_ n2_ n3_; clear hb hbox hg) | ((with_reducible refine gate_dst (N := 5) rfl ?_); refine box_event ?hg (N := 5) ?hd (cs := #[.int .i64 a2_0, .int .i64 a2_1, .string a2_2]) (t := 36) ?hr ?_; (case hd => rfl); (case hg => rfl); (case hr => first | (go_simp; done) | (go_simp; rfl)); intro gb266 hg w8 hbox hb; have n0_ := Aside0.mk (blk_below (g := gb265) (o := .cells #[.int .i64 a1_0, .int .i64 a1_1, .string a1_2] 36 (0, 0)) (by (with_reducible repeat (first | refine blk_drewN ?_ _ | refine blk_drew ?_ | refine blk_alloc ?_ _)); exact BK265.out) hb); have n1_ := Aside0.mk (below_step (by repeat (first | (with_reducible first | exact HB.out | apply below_alloc | apply pw_below_drewN | apply below_drew1 | refine below_set ?_ GE265.out) | exact HB.out)) hb); have n2_ := Aside0.mk (hbox); have n3_ := Aside0.mk ((by rw [hg]; exact (below_size (by repeat (first | (with_reducible first | exact HB.out | apply below_alloc | apply pw_below_drewN | apply below_drew1 | refine below_set ?_ GE265.out) | exact HB.out))) : w.heap.size ≤ gb266)); have n4_ := Aside0.mk ((by rw [hg]; exact (below_size (by repeat (first | (with_reducible first | exact HB.out | apply below_alloc | apply pw_below_drewN | apply below_drew1 | refine below_set ?_ GE265.out) | exact HB.out))) : w.heap.size ≤ gb266)); have n5_ := Aside0.mk ((by rw [hg]; exact Nat.ne_of_lt (blk_lt (g := gb265) (o := .cells #[.int .i64 a1_0, .int .i64 a1_1, .string a1_2] 36 (0, 0)) (by (with_reducible repeat (first | refine blk_drewN ?_ _ | refine blk_drew ?_ | refine blk_alloc ?_ _)); exact BK265.out)) : gb265 ≠ gb266)); have n6_ := Aside0.mk ((by rw [hg]; exact Nat.ne_of_gt (blk_lt (g := gb265) (o := .cells #[.int .i64 a1_0, .int .i64 a1_1, .string a1_2] 36 (0, 0)) (by (with_reducible repeat (first | refine blk_drewN ?_ _ | refine blk_drew ?_ | refine blk_alloc ?_ _)); exact BK265.out)) : gb266 ≠ gb265)); clear BK265; clear HB; have BK265 := n0_; have HB := n1_; have BK266 := n2_; have GW266 := n3_; have GE266 := n4_; have NB265_266 := n5_; have NB266_265 := n6_; clear n0_ n1_ n2_ n3_ n4_ n5_ n6_; clear hb hbox hg))
  have n0_ := Aside0.mk (blk_drew BK265.out)
  have n1_ := Aside0.mk (blk_drew BK266.out)
  have n2_ := Aside0.mk (below_drew1 HB.out)
  clear BK265
  clear BK266
  clear HB
  have BK265 := n0_
  have BK266 := n1_
  have HB := n2_
  clear n0_ n1_ n2_
  refine start_ (n := 12) (S := fun w' => w'.cell? ⟨gb265, 0, none⟩ = some (.int .i64 a1_0) ∧ w'.cell? ⟨gb265, 1, none⟩ = some (.int .i64 a1_1) ∧ w'.cell? ⟨gb265, 2, none⟩ = some (.string a1_2) ∧ w'.cell? ⟨gb266, 0, none⟩ = some (.int .i64 a2_0) ∧ w'.cell? ⟨gb266, 1, none⟩ = some (.int .i64 a2_1) ∧ w'.cell? ⟨gb266, 2, none⟩ = some (.string a2_2)) (ds := []) #[false, false, false, false, false, false, false, false, false, false, false, false] (by kernel_rfl) rfl rfl ⟨(blk_cell BK265.out 0).trans rfl, (blk_cell BK265.out 1).trans rfl, (blk_cell BK265.out 2).trans rfl, (blk_cell BK266.out 0).trans rfl, (blk_cell BK266.out 1).trans rfl, (blk_cell BK266.out 2).trans rfl⟩ (fun hHeld => ?_); refine with_tabW lintelref20_Entry.tab1 lintelref20_Entry.bits1 (fun HT_ HW_ => ?_)
  generalize w8.drew = w9 at BK265 BK266 HB hHeld ⊢
  refine pure_ (i := 1) (N := some 11) (v := ?_) (a' := ?_) #[false, true, false, false, false, false, false, false, false, false, false, false] rfl rfl (any_of HT_.out (by kernel_rfl)) (fun _ _ _ h => h) (Or.inl ⟨by rfl, ?_⟩) ?_ ?_
  rotate_left
  · intro w'
    go_simp
    with_reducible rfl
  rotate_left
  · simp only [Act.put, List.setIfInBounds_toArray, List.set_cons_zero, List.set_cons_succ, i64_w, i32_w]
    rfl
  refine take_ (i := 3) (N := some 13) (v := ?_) (a' := ?_) #[false, true, false, true, false, false, false, false, false, false, false, false] rfl rfl (take_ofW HT_.out HW_.out (by kernel_rfl)) (fun _ _ _ h => h) (Or.inl ⟨by rfl, ?_⟩) hHeld ?_ ?_
  rotate_left
  · rintro w' ⟨s0, s1, s2, s3, s4, s5⟩
    go_simp
    with_reducible rfl
  rotate_left
  · simp only [Act.put, List.setIfInBounds_toArray, List.set_cons_zero, List.set_cons_succ, i64_w, i32_w]
    rfl
  refine take_ (i := 4) (N := some 14) (v := ?_) (a' := ?_) #[false, true, false, true, true, false, false, false, false, false, false, false] rfl rfl (take_ofW HT_.out HW_.out (by kernel_rfl)) (fun _ _ _ h => h) (Or.inl ⟨by rfl, ?_⟩) hHeld ?_ ?_
  rotate_left
  · rintro w' ⟨s0, s1, s2, s3, s4, s5⟩
    go_simp
    with_reducible rfl
  rotate_left
  · simp only [Act.put, List.setIfInBounds_toArray, List.set_cons_zero, List.set_cons_succ, i64_w, i32_w]
    rfl
  refine one_ (i := 0) (N := some 10) #[true, true, false, true, true, false, false, false, false, false, false, false] rfl rfl (one_of HT_.out (by kernel_rfl)) (by decide) (fun K hK => ?_)
  refine goes_ Try.func24 (by kernel_rfl) rfl #[.int .i64 1] (by rfl) rfl rfl (by (try simp only [List.map_toArray, List.map_cons, List.map_nil]); first | done | rfl | (simp only [List.length_drop, List.length_take]; rfl)) ?_
  with_reducible refine (lintelref20_Num.calls 1 t267 t268 t269 _ A4.out).mono ?_
  rintro e w10 ⟨rfl, hb⟩
  refine ⟨_, rfl, ?_⟩
  have n0_ := Aside0.mk (blk_below (g := gb265) (o := .cells #[.int .i64 a1_0, .int .i64 a1_1, .string a1_2] 36 (0, 0)) (by (with_reducible repeat (first | refine blk_drewN ?_ _ | refine blk_drew ?_ | refine blk_alloc ?_ _)); exact BK265.out) hb)
  have n1_ := Aside0.mk (blk_below (g := gb266) (o := .cells #[.int .i64 a2_0, .int .i64 a2_1, .string a2_2] 36 (0, 0)) (by (with_reducible repeat (first | refine blk_drewN ?_ _ | refine blk_drew ?_ | refine blk_alloc ?_ _)); exact BK266.out) hb)
  have n2_ := Aside0.mk (below_step (by repeat (first | (with_reducible first | exact HB.out | apply below_alloc | apply pw_below_drewN | apply below_drew1 | refine below_set ?_ GE265.out | refine below_set ?_ GE266.out) | exact HB.out)) hb)
  clear BK265
  clear BK266
  clear HB
  have BK265 := n0_
  have BK266 := n1_
  have HB := n2_
  clear n0_ n1_ n2_
  (try clear hb)
  (try clear hb2)
  (try clear hk)
  (try clear hi)
  refine hK.out _ _ ⟨(blk_cell BK265.out 0).trans rfl, (blk_cell BK265.out 1).trans rfl, (blk_cell BK265.out 2).trans rfl, (blk_cell BK266.out 0).trans rfl, (blk_cell BK266.out 1).trans rfl, (blk_cell BK266.out 2).trans rfl⟩ (fun hHeld => ?_)
  clear hK K
  refine norm_ (a' := ?_) ?_ ?_
  rotate_left
  · show Act.put _ (some 10) _ = _
    simp only [Act.put, List.setIfInBounds_toArray, List.set_cons_zero, List.set_cons_succ, i64_w, i32_w]
    rfl
  refine one_ (i := 2) (N := some 12) #[true, true, true, true, true, false, false, false, false, false, false, false] rfl rfl (one_of HT_.out (by kernel_rfl)) (by decide) (fun K hK => ?_)
  refine goes_ Try.func24 (by kernel_rfl) rfl #[.int .i64 a0] (by rfl) rfl rfl (by (try simp only [List.map_toArray, List.map_cons, List.map_nil]); first | done | rfl | (simp only [List.length_drop, List.length_take]; rfl)) ?_
  with_reducible refine (lintelref20_Num.calls a0 t270 t271 t272 _ A5.out).mono ?_
  rintro e w11 ⟨rfl, hb⟩
  refine ⟨_, rfl, ?_⟩
  have n0_ := Aside0.mk (blk_below (g := gb265) (o := .cells #[.int .i64 a1_0, .int .i64 a1_1, .string a1_2] 36 (0, 0)) (by (with_reducible repeat (first | refine blk_drewN ?_ _ | refine blk_drew ?_ | refine blk_alloc ?_ _)); exact BK265.out) hb)
  have n1_ := Aside0.mk (blk_below (g := gb266) (o := .cells #[.int .i64 a2_0, .int .i64 a2_1, .string a2_2] 36 (0, 0)) (by (with_reducible repeat (first | refine blk_drewN ?_ _ | refine blk_drew ?_ | refine blk_alloc ?_ _)); exact BK266.out) hb)
  have n2_ := Aside0.mk (below_step (by repeat (first | (with_reducible first | exact HB.out | apply below_alloc | apply pw_below_drewN | apply below_drew1 | refine below_set ?_ GE265.out | refine below_set ?_ GE266.out) | exact HB.out)) hb)
  clear BK265
  clear BK266
  clear HB
  have BK265 := n0_
  have BK266 := n1_
  have HB := n2_
  clear n0_ n1_ n2_
  (try clear hb)
  (try clear hb2)
  (try clear hk)
  (try clear hi)
  refine hK.out _ _ ⟨(blk_cell BK265.out 0).trans rfl, (blk_cell BK265.out 1).trans rfl, (blk_cell BK265.out 2).trans rfl, (blk_cell BK266.out 0).trans rfl, (blk_cell BK266.out 1).trans rfl, (blk_cell BK266.out 2).trans rfl⟩ (fun hHeld => ?_)
  clear hK K
  refine norm_ (a' := ?_) ?_ ?_
  rotate_left
  · show Act.put _ (some 12) _ = _
    simp only [Act.put, List.setIfInBounds_toArray, List.set_cons_zero, List.set_cons_succ, i64_w, i32_w]
    rfl
  refine one_ (i := 5) (N := some 15) #[true, true, true, true, true, true, false, false, false, false, false, false] rfl rfl (one_of HT_.out (by kernel_rfl)) (by decide) (fun K hK => ?_)
  refine Kd.R_lit_step k36 _ 36 ?hg (N := 15) ?hd (xs := ([(⟨t267, t268, t269⟩ : S36), (⟨t270, t271, t272⟩ : S36), (⟨a1_0, a1_1, a1_2⟩ : S36), (⟨a2_0, a2_1, a2_2⟩ : S36)] : List (S36))) (inner := [.int .i64 t267, .int .i64 t268, .string t269, .int .i64 t270, .int .i64 t271, .string t272, .int .i64 a1_0, .int .i64 a1_1, .string a1_2, .int .i64 a2_0, .int .i64 a2_1, .string a2_2]) (ok := fun _ => True) (okp := fun _ => True) ?hr ?hp (fun _ hk => hk) trivial (Below.refl _ _) (Nat.le_refl _) (by simp) ?_; (case hd => rfl); (case hg => rfl); (case hr => first | (go_simp; done) | (go_simp; rfl)); (case hp => exact (Reps.c3 (show Kd.M k36 _ _ _ (⟨t267, t268, t269⟩ : S36) [.int .i64 t267, .int .i64 t268, .string t269] from (k36_mkM _ _ _ (⟨t267, t268, t269⟩ : S36) )) (Reps.c3 (show Kd.M k36 _ _ _ (⟨t270, t271, t272⟩ : S36) [.int .i64 t270, .int .i64 t271, .string t272] from (k36_mkM _ _ _ (⟨t270, t271, t272⟩ : S36) )) (Reps.c3 (show Kd.M k36 _ _ _ (⟨a1_0, a1_1, a1_2⟩ : S36) [.int .i64 a1_0, .int .i64 a1_1, .string a1_2] from (k36_mkM _ _ _ (⟨a1_0, a1_1, a1_2⟩ : S36) )) (Reps.c3 (show Kd.M k36 _ _ _ (⟨a2_0, a2_1, a2_2⟩ : S36) [.int .i64 a2_0, .int .i64 a2_1, .string a2_2] from (k36_mkM _ _ _ (⟨a2_0, a2_1, a2_2⟩ : S36) )) (Reps.none _ _))))))
  intro v274 w12 ho13 hb hg_ hnew_
  clear hg_ hnew_
  (first | rw [← Ny273.out] at ho13 | (simp only [Int.reduceToNat] at ho13; rw [← Ny273.out] at ho13))
  have n0_ := Aside0.mk (Kd.R_lower (Kd.R_newB (Kd.R_newB ho13 (g := gb265) (o := .cells #[.int .i64 a1_0, .int .i64 a1_1, .string a1_2] 36 (0, 0)) (by (with_reducible repeat (first | refine blk_drewN ?_ _ | refine blk_drew ?_ | refine blk_alloc ?_ _)); exact BK265.out)) (g := gb266) (o := .cells #[.int .i64 a2_0, .int .i64 a2_1, .string a2_2] 36 (0, 0)) (by (with_reducible repeat (first | refine blk_drewN ?_ _ | refine blk_drew ?_ | refine blk_alloc ?_ _)); exact BK266.out)) (below_size (by repeat (first | (with_reducible first | exact HB.out | apply below_alloc | apply pw_below_drewN | apply below_drew1 | refine below_set ?_ GE265.out | refine below_set ?_ GE266.out) | exact HB.out))))
  have n1_ := Aside0.mk (blk_below (g := gb265) (o := .cells #[.int .i64 a1_0, .int .i64 a1_1, .string a1_2] 36 (0, 0)) (by (with_reducible repeat (first | refine blk_drewN ?_ _ | refine blk_drew ?_ | refine blk_alloc ?_ _)); exact BK265.out) hb)
  have n2_ := Aside0.mk (blk_below (g := gb266) (o := .cells #[.int .i64 a2_0, .int .i64 a2_1, .string a2_2] 36 (0, 0)) (by (with_reducible repeat (first | refine blk_drewN ?_ _ | refine blk_drew ?_ | refine blk_alloc ?_ _)); exact BK266.out) hb)
  have n3_ := Aside0.mk (below_step (by repeat (first | (with_reducible first | exact HB.out | apply below_alloc | apply pw_below_drewN | apply below_drew1 | refine below_set ?_ GE265.out | refine below_set ?_ GE266.out) | exact HB.out)) hb)
  clear BK265
  clear BK266
  clear HB
  have HO275 := n0_
  have BK265 := n1_
  have BK266 := n2_
  have HB := n3_
  clear n0_ n1_ n2_ n3_
  clear hb ho13
  obtain ⟨Ao14, co14, eo14⟩ := Kd.R_slice HO275.out
  (first | subst eo14 | (injection eo14 with f1_ f2_ f3_; have f4_ := f1_.symm; have f5_ := f3_.symm; clear f1_ f2_ f3_; subst f4_; subst f5_))
  refine hK.out _ _ ⟨(blk_cell BK265.out 0).trans rfl, (blk_cell BK265.out 1).trans rfl, (blk_cell BK265.out 2).trans rfl, (blk_cell BK266.out 0).trans rfl, (blk_cell BK266.out 1).trans rfl, (blk_cell BK266.out 2).trans rfl⟩ (fun hHeld => ?_)
  clear hK K
  refine norm_ (a' := ?_) ?_ ?_
  rotate_left
  · show Act.put _ (some 15) _ = _
    simp only [Act.put, List.setIfInBounds_toArray, List.set_cons_zero, List.set_cons_succ, i64_w, i32_w]
    rfl
  refine one_ (i := 6) (N := some 16) #[true, true, true, true, true, true, true, false, false, false, false, false] rfl rfl (one_of HT_.out (by kernel_rfl)) (by decide) (fun K hK => ?_)
  refine goes_ Try.func31 (by kernel_rfl) rfl #[.slice Ao14 y273.length co14] (by rfl) rfl rfl (by (try simp only [List.map_toArray, List.map_cons, List.map_nil]); first | done | rfl | (simp only [List.length_drop, List.length_take]; rfl)) ?_
  with_reducible refine (lintelref02_Encode.calls k _ _ y273 t276 t277 _ ?side1 ?side2 A6.out).mono ?_
  (case side1 => repeat (first | exact (Kd.R_reads' HO275.out).2.2 | (with_reducible refine Kd.C_alloc ?_ _) | (with_reducible refine Kd.C_drewN ?_ _) | (with_reducible refine Kd.C_drew ?_)))
  (case side2 => exact (Kd.R_reads' HO275.out).2.1)
  rintro e w15 ⟨rfl, hb⟩
  refine ⟨_, rfl, ?_⟩
  have n0_ := Aside0.mk (Kd.R_below (by (with_reducible repeat (first | apply Kd.R_alloc | apply Kd.R_drewN | apply Kd.R_drew)); exact HO275.out) hb)
  have n1_ := Aside0.mk (blk_below (g := gb265) (o := .cells #[.int .i64 a1_0, .int .i64 a1_1, .string a1_2] 36 (0, 0)) (by (with_reducible repeat (first | refine blk_drewN ?_ _ | refine blk_drew ?_ | refine blk_alloc ?_ _)); exact BK265.out) hb)
  have n2_ := Aside0.mk (blk_below (g := gb266) (o := .cells #[.int .i64 a2_0, .int .i64 a2_1, .string a2_2] 36 (0, 0)) (by (with_reducible repeat (first | refine blk_drewN ?_ _ | refine blk_drew ?_ | refine blk_alloc ?_ _)); exact BK266.out) hb)
  have n3_ := Aside0.mk (below_step (by repeat (first | (with_reducible first | exact HB.out | apply below_alloc | apply pw_below_drewN | apply below_drew1 | refine below_set ?_ GE265.out | refine below_set ?_ GE266.out) | exact HB.out)) hb)
  clear HO275
  clear BK265
  clear BK266
  clear HB
  have HO275 := n0_
  have BK265 := n1_
  have BK266 := n2_
  have HB := n3_
  clear n0_ n1_ n2_ n3_
  (try clear hb)
  (try clear hb2)
  (try clear hk)
  (try clear hi)
  refine hK.out _ _ ⟨(blk_cell BK265.out 0).trans rfl, (blk_cell BK265.out 1).trans rfl, (blk_cell BK265.out 2).trans rfl, (blk_cell BK266.out 0).trans rfl, (blk_cell BK266.out 1).trans rfl, (blk_cell BK266.out 2).trans rfl⟩ (fun hHeld => ?_)
  clear hK K
  refine norm_ (a' := ?_) ?_ ?_
  rotate_left
  · show Act.put _ (some 16) _ = _
    simp only [Act.put, List.setIfInBounds_toArray, List.set_cons_zero, List.set_cons_succ, i64_w, i32_w]
    rfl
  refine pure_ (i := 7) (N := some 9) (v := ?_) (a' := ?_) #[true, true, true, true, true, true, true, true, false, false, false, false] rfl rfl (any_of HT_.out (by kernel_rfl)) (fun _ _ _ h => h) (Or.inl ⟨by rfl, ?_⟩) ?_ ?_
  rotate_left
  · intro w'
    go_simp
    with_reducible rfl
  rotate_left
  · simp only [Act.put, List.setIfInBounds_toArray, List.set_cons_zero, List.set_cons_succ, i64_w, i32_w]
    rfl
  refine pure_ (i := 8) (N := some 17) (v := ?_) (a' := ?_) #[true, true, true, true, true, true, true, true, true, false, false, false] rfl rfl (any_of HT_.out (by kernel_rfl)) (fun _ _ _ h => h) (Or.inl ⟨by rfl, ?_⟩) ?_ ?_
  rotate_left
  · intro w'
    go_simp
    with_reducible rfl
  rotate_left
  · simp only [Act.put, List.setIfInBounds_toArray, List.set_cons_zero, List.set_cons_succ, i64_w, i32_w]
    rfl
  refine pure_ (i := 9) (N := some 18) (v := ?_) (a' := ?_) #[true, true, true, true, true, true, true, true, true, true, false, false] rfl rfl (any_of HT_.out (by kernel_rfl)) (fun _ _ _ h => h) (Or.inl ⟨by rfl, ?_⟩) ?_ ?_
  rotate_left
  · intro w'
    go_simp
    with_reducible rfl
  rotate_left
  · simp only [Act.put, List.setIfInBounds_toArray, List.set_cons_zero, List.set_cons_succ, i64_w, i32_w]
    rfl
  refine pure_ (i := 10) (N := some 7) (v := ?_) (a' := ?_) #[true, true, true, true, true, true, true, true, true, true, true, false] rfl rfl (any_of HT_.out (by kernel_rfl)) (fun _ _ _ h => h) (Or.inl ⟨by rfl, ?_⟩) ?_ ?_
  rotate_left
  · intro w'
    go_simp
    with_reducible rfl
  rotate_left
  · simp only [Act.put, List.setIfInBounds_toArray, List.set_cons_zero, List.set_cons_succ, i64_w, i32_w]
    rfl
  refine pure_ (i := 11) (N := some 8) (v := ?_) (a' := ?_) #[true, true, true, true, true, true, true, true, true, true, true, true] rfl rfl (any_of HT_.out (by kernel_rfl)) (fun _ _ _ h => h) (Or.inl ⟨by rfl, ?_⟩) ?_ ?_
  rotate_left
  · intro w'
    go_simp
    with_reducible rfl
  rotate_left
  · simp only [Act.put, List.setIfInBounds_toArray, List.set_cons_zero, List.set_cons_succ, i64_w, i32_w]
    rfl
  refine done_ (done_of HT_.out (by kernel_rfl)) ?_
  try go_wp2
  go_ret
  exact ⟨by first | rfl | (simp [errW_none, errW_some] <;> rfl) | (simp [*, errW_none, errW_some] <;> rfl), by repeat (first | (with_reducible first | exact HB.out | apply below_alloc | apply pw_below_drewN | apply below_drew1 | refine below_set ?_ GE265.out | refine below_set ?_ GE266.out) | exact HB.out)⟩

/-! ### lintelref12_Within: function 27 -/
def lintelref12_Within.f (k : Nat) (a0 : ByteArray) (a1_0 : ByteArray) (a1_1 : ByteArray) : Option (Bool) := (lintelref01_Stands.f k a1_0 a0).bind fun t279 => (if t279 ≤ 0 then ((lintelref01_Stands.f k a0 a1_1).bind fun t280 => (some (decide (t280 < 0)))) else (some false))
theorem lintelref12_Within.mono : ∀ a0 a1 a2 k, LeO (lintelref12_Within.f k a0 a1 a2) (lintelref12_Within.f (k + 1) a0 a1 a2) := by
  intro a0 a1 a2 k
  unfold lintelref12_Within.f
  repeat' first
      | (with_reducible exact lintelref01_Stands.mono _ _ _)
      | (with_reducible exact LeO.refl _)
      | (with_reducible exact LeO.none _)
      | (with_reducible refine LeO.ite ?_ ?_)
      | (with_reducible refine LeO.bind ?_ (fun _ => ?_))
      | exact lintelref01_Stands.mono _ _ _
      | exact LeO.none _
      | refine LeO.ite ?_ ?_
      | refine LeO.bind ?_ (fun _ => ?_)
set_option maxHeartbeats 8000000 in
set_option maxRecDepth 100000 in
theorem lintelref12_Within.calls (k : Nat) (a0 : ByteArray) (a1_0 : ByteArray) (a1_1 : ByteArray) (r : Bool) (w : World) (h : lintelref12_Within.f k a0 a1_0 a1_1 = some r) :
    Calls Try.prog 27 #[.string a0, .agg #[.string a1_0, .string a1_1]] w fun e w' => e = .returned (.bool r) ∧ Below w.heap.size w w' := by
  have hu70 := Try.underlying70
  have HB := Aside0.mk (Below.refl w.heap.size w)
  have H : ((lintelref01_Stands.f k a1_0 a0).bind fun t279 => (if t279 ≤ 0 then ((lintelref01_Stands.f k a0 a1_1).bind fun t280 => (some (decide (t280 < 0)))) else (some false))) = some r := h
  clear h
  replace H := Option.bind_eq_some_iff.mp H
  obtain ⟨t279, A30, H⟩ := H
  replace H : (if t279 ≤ 0 then ((lintelref01_Stands.f k a0 a1_1).bind fun t280 => (some (decide (t280 < 0)))) else (some false)) = some r := H
  have A3 := Aside0.mk A30
  clear A30
  by_cases c4 : t279 ≤ 0
  · rw [if_pos c4] at H
    have c4b0 : decide (t279 ≤ 0) = true := decide_eq_true c4
    clear c4
    replace H := Option.bind_eq_some_iff.mp H
    obtain ⟨t280, A50, H⟩ := H
    replace H : (some (decide (t280 < 0))) = some r := H
    have A5 := Aside0.mk A50
    clear A50
    obtain rfl := Option.some.inj H
    go_enter Try.func27, Try.ntmps27
    go_wp2_with (first | ((with_reducible refine gate_dst (N := 3) rfl ?_); refine box_event ?hg (N := 3) ?hd (cs := #[.string a1_0, .string a1_1]) (t := 70) ?hr ?_; (case hd => rfl); (case hg => rfl); (case hr => first | (go_simp; done) | (go_simp; rfl)); intro gb278 hg w6 hbox hb; have n0_ := Aside0.mk (below_step (by repeat (first | (with_reducible first | exact HB.out | apply below_alloc | apply pw_below_drewN | apply below_drew1) | exact HB.out)) hb); have n1_ := Aside0.mk (hbox); have n2_ := Aside0.mk ((by rw [hg]; exact (below_size (by repeat (first | (with_reducible first | exact HB.out | apply below_alloc | apply pw_below_drewN | apply below_drew1) | exact HB.out))) : w.heap.size ≤ gb278)); have n3_ := Aside0.mk ((by rw [hg]; exact (below_size (by repeat (first | (with_reducible first | exact HB.out | apply below_alloc | apply pw_below_drewN | apply below_drew1) | exact HB.out))) : w.heap.size ≤ gb278)); clear HB; have HB := n0_; have BK278 := n1_; have GW278 := n2_; have GE278 := n3_; clear n0_ n1_ n2_ n3_; clear hb hbox hg; have hcz7_0 : w6.cell? ⟨gb278, 0, none⟩ = some (.string a1_0) := (blk_cell BK278.out 0).trans rfl; have hcz7_1 : w6.cell? ⟨gb278, 1, none⟩ = some (.string a1_1) := (blk_cell BK278.out 1).trans rfl; have hfz7_0 := blk_frozen BK278.out 0; have hfz7_1 := blk_frozen BK278.out 1) | ((with_reducible refine gate_callee (f := 37) rfl ?_); refine goesL_ (some 8) rfl rfl Try.func37 (by kernel_rfl) rfl #[.string a1_0, .string a0] rfl (by (try simp only [List.map_toArray, List.map_cons, List.map_nil]); first | done | rfl | (simp only [List.length_drop, List.length_take]; rfl)) ?_; (with_reducible refine (lintelref01_Stands.calls k a1_0 a0 t279 _ A3.out).mono ?_); rintro e w' ⟨rfl, ⟨nd, rfl⟩⟩; refine ⟨_, rfl, ?_⟩) | (go_at_call 37; (with_reducible refine (lintelref01_Stands.calls k a0 a1_1 t280 _ A5.out).mono ?_); rintro e w' ⟨rfl, ⟨nd, rfl⟩⟩))
    go_ret
    exact ⟨by first | rfl | (simp [errW_none, errW_some] <;> rfl) | (simp [*, errW_none, errW_some] <;> rfl), by repeat (first | (with_reducible first | exact HB.out | apply below_alloc | apply pw_below_drewN | apply below_drew1 | refine below_set ?_ GE278.out) | exact HB.out)⟩
  · rw [if_neg c4] at H
    have c4b0 : decide (t279 ≤ 0) = false := decide_eq_false c4
    clear c4
    obtain rfl := Option.some.inj H
    go_enter Try.func27, Try.ntmps27
    go_wp2_with (first | ((with_reducible refine gate_dst (N := 3) rfl ?_); refine box_event ?hg (N := 3) ?hd (cs := #[.string a1_0, .string a1_1]) (t := 70) ?hr ?_; (case hd => rfl); (case hg => rfl); (case hr => first | (go_simp; done) | (go_simp; rfl)); intro gb278 hg w8 hbox hb; have n0_ := Aside0.mk (below_step (by repeat (first | (with_reducible first | exact HB.out | apply below_alloc | apply pw_below_drewN | apply below_drew1) | exact HB.out)) hb); have n1_ := Aside0.mk (hbox); have n2_ := Aside0.mk ((by rw [hg]; exact (below_size (by repeat (first | (with_reducible first | exact HB.out | apply below_alloc | apply pw_below_drewN | apply below_drew1) | exact HB.out))) : w.heap.size ≤ gb278)); have n3_ := Aside0.mk ((by rw [hg]; exact (below_size (by repeat (first | (with_reducible first | exact HB.out | apply below_alloc | apply pw_below_drewN | apply below_drew1) | exact HB.out))) : w.heap.size ≤ gb278)); clear HB; have HB := n0_; have BK278 := n1_; have GW278 := n2_; have GE278 := n3_; clear n0_ n1_ n2_ n3_; clear hb hbox hg; have hcz9_0 : w8.cell? ⟨gb278, 0, none⟩ = some (.string a1_0) := (blk_cell BK278.out 0).trans rfl; have hcz9_1 : w8.cell? ⟨gb278, 1, none⟩ = some (.string a1_1) := (blk_cell BK278.out 1).trans rfl; have hfz9_0 := blk_frozen BK278.out 0; have hfz9_1 := blk_frozen BK278.out 1) | ((with_reducible refine gate_callee (f := 37) rfl ?_); refine goesL_ (some 8) rfl rfl Try.func37 (by kernel_rfl) rfl #[.string a1_0, .string a0] rfl (by (try simp only [List.map_toArray, List.map_cons, List.map_nil]); first | done | rfl | (simp only [List.length_drop, List.length_take]; rfl)) ?_; (with_reducible refine (lintelref01_Stands.calls k a1_0 a0 t279 _ A3.out).mono ?_); rintro e w' ⟨rfl, ⟨nd, rfl⟩⟩; refine ⟨_, rfl, ?_⟩))
    go_ret
    exact ⟨by first | rfl | (simp [errW_none, errW_some] <;> rfl) | (simp [*, errW_none, errW_some] <;> rfl), by repeat (first | (with_reducible first | exact HB.out | apply below_alloc | apply pw_below_drewN | apply below_drew1 | refine below_set ?_ GE278.out) | exact HB.out)⟩

/-! ### lintellaw20_table: function 20 -/
def lintellaw20_table.f (a0 : Int) : Option (Int × ByteArray × (List (S83)) × (List (S87)) × (List (S121))) := (some (([(⟨2, (⟨#[97]⟩ : ByteArray), 1, 3, (⟨0, 0, (⟨#[]⟩ : ByteArray)⟩ : S36)⟩ : S83), (⟨3, (⟨#[98]⟩ : ByteArray), 1, 3, (⟨0, 0, (⟨#[]⟩ : ByteArray)⟩ : S36)⟩ : S83)] : List (S83)) : List (S83))).bind fun y282 => (if a0 = 0 then (some (1, (⟨#[116]⟩ : ByteArray), y282, ([] : List (S87)), ([] : List (S121)))) else (some (1, (⟨#[116]⟩ : ByteArray), y282, (([(⟨4, (⟨#[105]⟩ : ByteArray), 3, false, a0⟩ : S87)] : List (S87))), ([] : List (S121)))))
set_option maxHeartbeats 8000000 in
set_option maxRecDepth 100000 in
theorem lintellaw20_table.calls (a0 : Int) (r1 : Int) (r2 : ByteArray) (r3 : List (S83)) (r4 : List (S87)) (r5 : List (S121)) (w : World) (h : lintellaw20_table.f a0 = some (r1, r2, r3, r4, r5)) :
    Calls Try.prog 20 #[.int .i64 a0] w fun e w' => ∃ v2_ v3_ v4_ : Value, e = .returned (.agg #[.int .i64 r1, .string r2, v2_, v3_, v4_]) ∧ Kd.R k83 83 w' w.heap.size (fun _ => True) v2_ r3 ∧ Kd.R k87 87 w' w.heap.size (fun _ => True) v3_ r4 ∧ Kd.R k121 121 w' w.heap.size (fun _ => True) v4_ r5 ∧ Below w.heap.size w w' := by
  have hu58 := Try.underlying58
  have hu83 := Try.underlying83
  have hu87 := Try.underlying87
  have HB := Aside0.mk (Below.refl w.heap.size w)
  have H : ((some (([(⟨2, (⟨#[97]⟩ : ByteArray), 1, 3, (⟨0, 0, (⟨#[]⟩ : ByteArray)⟩ : S36)⟩ : S83), (⟨3, (⟨#[98]⟩ : ByteArray), 1, 3, (⟨0, 0, (⟨#[]⟩ : ByteArray)⟩ : S36)⟩ : S83)] : List (S83)) : List (S83))).bind fun y282 => (if a0 = 0 then (some (1, (⟨#[116]⟩ : ByteArray), y282, ([] : List (S87)), ([] : List (S121)))) else (some (1, (⟨#[116]⟩ : ByteArray), y282, (([(⟨4, (⟨#[105]⟩ : ByteArray), 3, false, a0⟩ : S87)] : List (S87))), ([] : List (S121)))))) = some (r1, r2, r3, r4, r5) := h
  clear h
  obtain ⟨y282, hy282⟩ : ∃ y_ : List (S83), y_ = (([(⟨2, (⟨#[97]⟩ : ByteArray), 1, 3, (⟨0, 0, (⟨#[]⟩ : ByteArray)⟩ : S36)⟩ : S83), (⟨3, (⟨#[98]⟩ : ByteArray), 1, 3, (⟨0, 0, (⟨#[]⟩ : ByteArray)⟩ : S36)⟩ : S83)] : List (S83))) := ⟨_, rfl⟩
  replace H : (if a0 = 0 then (some (1, (⟨#[116]⟩ : ByteArray), y282, ([] : List (S87)), ([] : List (S121)))) else (some (1, (⟨#[116]⟩ : ByteArray), y282, (([(⟨4, (⟨#[105]⟩ : ByteArray), 3, false, a0⟩ : S87)] : List (S87))), ([] : List (S121))))) = some (r1, r2, r3, r4, r5) := by first | (rw [hy282]; with_reducible exact H) | (have H2_ := (Option.bind_some _ _).symm.trans H; rw [hy282]; with_reducible exact H2_) | (have H2_ := (Option.bind_some _ _).symm.trans H; with_reducible exact H2_) | with_reducible exact H | (rw [hy282]; exact H) | exact H
  have Ny282 := Aside0.mk hy282
  clear hy282
  by_cases c2 : a0 = 0
  · rw [if_pos c2] at H
    have c2b0 : (a0 == 0) = true := beq_iff_eq.mpr c2
    have c2b1 : (a0 != 0) = false := bne_eq_false_iff_eq.mpr c2
    clear c2
    simp only [Option.some.injEq, Prod.mk.injEq] at H
    obtain ⟨rfl, rfl, rfl, rfl, rfl⟩ := H
    go_enter Try.func20, Try.ntmps20
    go_wp2_with (first | ((with_reducible refine gate_dst (N := 2) rfl ?_); refine box_event ?hg (N := 2) ?hd (cs := #[.int .i64 0, .string (⟨#[]⟩ : ByteArray), .slice none 0 0, .slice none 0 0, .slice none 0 0]) (t := 58) ?hr ?_; (case hd => rfl); (case hg => rfl); (case hr => first | (go_simp; done) | (go_simp; rfl)); intro gb281 hg w3 hbox hb; have n0_ := Aside0.mk (below_step (by repeat (first | (with_reducible first | exact HB.out | apply below_alloc | apply pw_below_drewN | apply below_drew1) | exact HB.out)) hb); have n1_ := Aside0.mk (hbox); have n2_ := Aside0.mk ((by rw [hg]; exact (below_size (by repeat (first | (with_reducible first | exact HB.out | apply below_alloc | apply pw_below_drewN | apply below_drew1) | exact HB.out))) : w.heap.size ≤ gb281)); have n3_ := Aside0.mk ((by rw [hg]; exact (below_size (by repeat (first | (with_reducible first | exact HB.out | apply below_alloc | apply pw_below_drewN | apply below_drew1) | exact HB.out))) : w.heap.size ≤ gb281)); clear HB; have HB := n0_; have BK281 := n1_; have GW281 := n2_; have GE281 := n3_; clear n0_ n1_ n2_ n3_; clear hb hbox hg) | ((with_reducible refine gate_dst (N := 6) rfl ?_); refine Kd.R_lit k83 _ 83 ?hg (N := 6) ?hd (xs := ([(⟨2, (⟨#[97]⟩ : ByteArray), 1, 3, (⟨0, 0, (⟨#[]⟩ : ByteArray)⟩ : S36)⟩ : S83), (⟨3, (⟨#[98]⟩ : ByteArray), 1, 3, (⟨0, 0, (⟨#[]⟩ : ByteArray)⟩ : S36)⟩ : S83)] : List (S83))) (inner := [.int .i64 2, .string (⟨#[97]⟩ : ByteArray), .int .i64 1, .int .i64 3, .int .i64 0, .int .i64 0, .string (⟨#[]⟩ : ByteArray), .int .i64 3, .string (⟨#[98]⟩ : ByteArray), .int .i64 1, .int .i64 3, .int .i64 0, .int .i64 0, .string (⟨#[]⟩ : ByteArray)]) (ok := fun _ => True) (okp := fun _ => True) ?hr ?hp (fun _ hk => hk) trivial (Below.refl _ _) (Nat.le_refl _) (by simp) ?_; (case hd => rfl); (case hg => rfl); (case hr => first | (go_simp; done) | (go_simp; rfl)); (case hp => exact (Reps.c7 (show Kd.M k83 _ _ _ (⟨2, (⟨#[97]⟩ : ByteArray), 1, 3, (⟨0, 0, (⟨#[]⟩ : ByteArray)⟩ : S36)⟩ : S83) [.int .i64 2, .string (⟨#[97]⟩ : ByteArray), .int .i64 1, .int .i64 3, .int .i64 0, .int .i64 0, .string (⟨#[]⟩ : ByteArray)] from (k83_mkM _ _ _ (⟨2, (⟨#[97]⟩ : ByteArray), 1, 3, (⟨0, 0, (⟨#[]⟩ : ByteArray)⟩ : S36)⟩ : S83) )) (Reps.c7 (show Kd.M k83 _ _ _ (⟨3, (⟨#[98]⟩ : ByteArray), 1, 3, (⟨0, 0, (⟨#[]⟩ : ByteArray)⟩ : S36)⟩ : S83) [.int .i64 3, .string (⟨#[98]⟩ : ByteArray), .int .i64 1, .int .i64 3, .int .i64 0, .int .i64 0, .string (⟨#[]⟩ : ByteArray)] from (k83_mkM _ _ _ (⟨3, (⟨#[98]⟩ : ByteArray), 1, 3, (⟨0, 0, (⟨#[]⟩ : ByteArray)⟩ : S36)⟩ : S83) )) (Reps.none _ _)))); intro v283 w4 ho5 hb hg_ hnew_; clear hg_ hnew_; (first | rw [← Ny282.out] at ho5 | (simp only [Int.reduceToNat] at ho5; rw [← Ny282.out] at ho5)); have n0_ := Aside0.mk (Kd.R_lower ho5 (below_size (by repeat (first | (with_reducible first | exact HB.out | apply below_alloc | apply pw_below_drewN | apply below_drew1 | refine below_set ?_ GE281.out) | exact HB.out)))); have n1_ := Aside0.mk (blk_below (g := gb281) (o := .cells #[.int .i64 0, .string (⟨#[]⟩ : ByteArray), .slice none 0 0, .slice none 0 0, .slice none 0 0] 58 (0, 0)) (by (with_reducible repeat (first | refine blk_drewN ?_ _ | refine blk_drew ?_ | refine blk_alloc ?_ _)); exact BK281.out) hb); have n2_ := Aside0.mk (below_step (by repeat (first | (with_reducible first | exact HB.out | apply below_alloc | apply pw_below_drewN | apply below_drew1 | refine below_set ?_ GE281.out) | exact HB.out)) hb); clear BK281; clear HB; have HO284 := n0_; have BK281 := n1_; have HB := n2_; clear n0_ n1_ n2_; clear hb ho5; obtain ⟨Ao6, co6, eo6⟩ := Kd.R_slice HO284.out; subst eo6) | ((with_reducible refine gate_dst (N := 3) rfl ?_); refine box_event ?hg (N := 3) ?hd (cs := #[.int .i64 0, .string (⟨#[]⟩ : ByteArray), .slice none 0 0, .slice none 0 0, .slice none 0 0]) (t := 58) ?hr ?_; (case hd => rfl); (case hg => rfl); (case hr => first | (go_simp; done) | (go_simp; rfl)); intro gb285 hg w7 hbox hb; have n0_ := Aside0.mk (Kd.R_below (by (with_reducible repeat (first | apply Kd.R_alloc | apply Kd.R_drewN | apply Kd.R_drew)); exact HO284.out) hb); have n1_ := Aside0.mk (blk_below (g := gb281) (o := .cells #[.int .i64 0, .string (⟨#[]⟩ : ByteArray), .slice none 0 0, .slice none 0 0, .slice none 0 0] 58 (0, 0)) (by (with_reducible repeat (first | refine blk_drewN ?_ _ | refine blk_drew ?_ | refine blk_alloc ?_ _)); exact BK281.out) hb); have n2_ := Aside0.mk (below_step (by repeat (first | (with_reducible first | exact HB.out | apply below_alloc | apply pw_below_drewN | apply below_drew1 | refine below_set ?_ GE281.out) | exact HB.out)) hb); have n3_ := Aside0.mk (hbox); have n4_ := Aside0.mk ((by rw [hg]; exact (below_size (by repeat (first | (with_reducible first | exact HB.out | apply below_alloc | apply pw_below_drewN | apply below_drew1 | refine below_set ?_ GE281.out) | exact HB.out))) : w.heap.size ≤ gb285)); have n5_ := Aside0.mk ((by rw [hg]; exact (below_size (by repeat (first | (with_reducible first | exact HB.out | apply below_alloc | apply pw_below_drewN | apply below_drew1 | refine below_set ?_ GE281.out) | exact HB.out))) : w.heap.size ≤ gb285)); have n6_ := Aside0.mk ((by rw [hg]; exact Nat.ne_of_lt (blk_lt (g := gb281) (o := .cells #[.int .i64 0, .string (⟨#[]⟩ : ByteArray), .slice none 0 0, .slice none 0 0, .slice none 0 0] 58 (0, 0)) (by (with_reducible repeat (first | refine blk_drewN ?_ _ | refine blk_drew ?_ | refine blk_alloc ?_ _)); exact BK281.out)) : gb281 ≠ gb285)); have n7_ := Aside0.mk ((by rw [hg]; exact Nat.ne_of_gt (blk_lt (g := gb281) (o := .cells #[.int .i64 0, .string (⟨#[]⟩ : ByteArray), .slice none 0 0, .slice none 0 0, .slice none 0 0] 58 (0, 0)) (by (with_reducible repeat (first | refine blk_drewN ?_ _ | refine blk_drew ?_ | refine blk_alloc ?_ _)); exact BK281.out)) : gb285 ≠ gb281)); clear HO284; clear BK281; clear HB; have HO284 := n0_; have BK281 := n1_; have HB := n2_; have BK285 := n3_; have GW285 := n4_; have GE285 := n5_; have NB281_285 := n6_; have NB285_281 := n7_; clear n0_ n1_ n2_ n3_ n4_ n5_ n6_ n7_; clear hb hbox hg; have hnb8 := NB285_281.out; have hnc8 := NB281_285.out; have hcz9_0 : w7.cell? ⟨gb285, 0, none⟩ = some (.int .i64 0) := (blk_cell BK285.out 0).trans rfl; have hcz9_1 : w7.cell? ⟨gb285, 1, none⟩ = some (.string (⟨#[]⟩ : ByteArray)) := (blk_cell BK285.out 1).trans rfl; have hcz9_2 : w7.cell? ⟨gb285, 2, none⟩ = some (.slice none 0 0) := (blk_cell BK285.out 2).trans rfl; have hcz9_3 : w7.cell? ⟨gb285, 3, none⟩ = some (.slice none 0 0) := (blk_cell BK285.out 3).trans rfl; have hcz9_4 : w7.cell? ⟨gb285, 4, none⟩ = some (.slice none 0 0) := (blk_cell BK285.out 4).trans rfl; have hfz9_0 := blk_frozen BK285.out 0; have hfz9_1 := blk_frozen BK285.out 1; have hfz9_2 := blk_frozen BK285.out 2; have hfz9_3 := blk_frozen BK285.out 3; have hfz9_4 := blk_frozen BK285.out 4; have hcz10_0 : w7.cell? ⟨gb281, 0, none⟩ = some (.int .i64 0) := (blk_cell BK281.out 0).trans rfl; have hcz10_1 : w7.cell? ⟨gb281, 1, none⟩ = some (.string (⟨#[]⟩ : ByteArray)) := (blk_cell BK281.out 1).trans rfl; have hcz10_2 : w7.cell? ⟨gb281, 2, none⟩ = some (.slice none 0 0) := (blk_cell BK281.out 2).trans rfl; have hcz10_3 : w7.cell? ⟨gb281, 3, none⟩ = some (.slice none 0 0) := (blk_cell BK281.out 3).trans rfl; have hcz10_4 : w7.cell? ⟨gb281, 4, none⟩ = some (.slice none 0 0) := (blk_cell BK281.out 4).trans rfl; have hfz10_0 := blk_frozen BK281.out 0; have hfz10_1 := blk_frozen BK281.out 1; have hfz10_2 := blk_frozen BK281.out 2; have hfz10_3 := blk_frozen BK281.out 3; have hfz10_4 := blk_frozen BK281.out 4))
    refine bodyPost_ret (results_cell_row rfl _ _ gb281 58 #[.int .i64 1, .string (⟨#[116]⟩ : ByteArray), .slice Ao6 y282.length co6, .slice none 0 0, .slice none 0 0] (0, 0) _ rfl (by (with_reducible repeat (first | refine blk_drewN ?_ _ | refine blk_drew ?_ | refine blk_alloc ?_ _)); refine blk_put (cs := #[.int .i64 1, .string (⟨#[116]⟩ : ByteArray), .slice Ao6 y282.length co6, .slice none 0 0, .slice none 0 0]) ?_ 4 _ rfl; (with_reducible repeat (first | refine blk_drewN ?_ _ | refine blk_drew ?_ | refine blk_alloc ?_ _)); refine blk_put (cs := #[.int .i64 1, .string (⟨#[116]⟩ : ByteArray), .slice Ao6 y282.length co6, .slice none 0 0, .slice none 0 0]) ?_ 3 _ rfl; (with_reducible repeat (first | refine blk_drewN ?_ _ | refine blk_drew ?_ | refine blk_alloc ?_ _)); refine blk_put (cs := #[.int .i64 1, .string (⟨#[116]⟩ : ByteArray), .slice none 0 0, .slice none 0 0, .slice none 0 0]) ?_ 2 _ rfl; (with_reducible repeat (first | refine blk_drewN ?_ _ | refine blk_drew ?_ | refine blk_alloc ?_ _)); refine blk_put (cs := #[.int .i64 1, .string (⟨#[]⟩ : ByteArray), .slice none 0 0, .slice none 0 0, .slice none 0 0]) ?_ 1 _ rfl; (with_reducible repeat (first | refine blk_drewN ?_ _ | refine blk_drew ?_ | refine blk_alloc ?_ _)); refine blk_put (cs := #[.int .i64 0, .string (⟨#[]⟩ : ByteArray), .slice none 0 0, .slice none 0 0, .slice none 0 0]) ?_ 0 _ rfl; (with_reducible repeat (first | refine blk_drewN ?_ _ | refine blk_drew ?_ | refine blk_alloc ?_ _)); refine blk_far ?_ NB281_285.out _; (with_reducible repeat (first | refine blk_drewN ?_ _ | refine blk_drew ?_ | refine blk_alloc ?_ _)); refine blk_far ?_ NB281_285.out _; (with_reducible repeat (first | refine blk_drewN ?_ _ | refine blk_drew ?_ | refine blk_alloc ?_ _)); refine blk_far ?_ NB281_285.out _; (with_reducible repeat (first | refine blk_drewN ?_ _ | refine blk_drew ?_ | refine blk_alloc ?_ _)); refine blk_far ?_ NB281_285.out _; (with_reducible repeat (first | refine blk_drewN ?_ _ | refine blk_drew ?_ | refine blk_alloc ?_ _)); refine blk_far ?_ NB281_285.out _; (with_reducible repeat (first | refine blk_drewN ?_ _ | refine blk_drew ?_ | refine blk_alloc ?_ _)); exact BK281.out) Try.underlying58 rfl (by kernel_rfl)) rfl ?_
    exact ⟨_, _, _, by first | rfl | (simp [errW_none, errW_some] <;> rfl) | (simp [*, errW_none, errW_some] <;> rfl), by (with_reducible repeat (first | apply Kd.R_alloc | apply Kd.R_drewN | apply Kd.R_drew)); exact Kd.R_mono (Kd.R_far (p := ⟨gb281, 4, none⟩) (Kd.R_far (p := ⟨gb281, 3, none⟩) (Kd.R_far (p := ⟨gb281, 2, none⟩) (Kd.R_far (p := ⟨gb281, 1, none⟩) (Kd.R_far (p := ⟨gb281, 0, none⟩) (Kd.R_far (p := ⟨gb285, 4, none⟩) (Kd.R_far (p := ⟨gb285, 3, none⟩) (Kd.R_far (p := ⟨gb285, 2, none⟩) (Kd.R_far (p := ⟨gb285, 1, none⟩) (Kd.R_far (p := ⟨gb285, 0, none⟩) (Kd.R_types (Kd.R_types HO284.out BK285.out (by decide)) BK281.out (by decide)) (fun _ hk => hk.1.2) (.int .i64 1)) (fun _ hk => hk.1.2) (.string (⟨#[116]⟩ : ByteArray))) (fun _ hk => hk.1.2) (.slice Ao6 y282.length co6)) (fun _ hk => hk.1.2) (.slice none 0 0)) (fun _ hk => hk.1.2) (.slice none 0 0)) (fun _ hk => hk.2) (.int .i64 1)) (fun _ hk => hk.2) (.string (⟨#[116]⟩ : ByteArray))) (fun _ hk => hk.2) (.slice Ao6 y282.length co6)) (fun _ hk => hk.2) (.slice none 0 0)) (fun _ hk => hk.2) (.slice none 0 0)) (fun _ hk => trivial), by first | exact Kd.R_nil _ _ _ _ _ | exact Kd.N_nil _ _ _ _ _ | exact Kd.V_nil _ _ _ _ _ | exact Kd.Q_nil _ _ _ _ _ | exact Kd.S_nil _ _ _ _ _, by first | exact Kd.R_nil _ _ _ _ _ | exact Kd.N_nil _ _ _ _ _ | exact Kd.V_nil _ _ _ _ _ | exact Kd.Q_nil _ _ _ _ _ | exact Kd.S_nil _ _ _ _ _, by repeat (first | (with_reducible first | exact HB.out | apply below_alloc | apply pw_below_drewN | apply below_drew1 | refine below_set ?_ GE281.out | refine below_set ?_ GE285.out) | exact HB.out)⟩
  · rw [if_neg c2] at H
    have c2b0 : (a0 == 0) = false := beq_eq_false_iff_ne.mpr c2
    have c2b1 : (a0 != 0) = true := bne_iff_ne.mpr c2
    obtain ⟨y286, hy286⟩ : ∃ y_ : List (S87), y_ = (([(⟨4, (⟨#[105]⟩ : ByteArray), 3, false, a0⟩ : S87)] : List (S87))) := ⟨_, rfl⟩
    replace H : (some (1, (⟨#[116]⟩ : ByteArray), y282, y286, ([] : List (S121)))) = some (r1, r2, r3, r4, r5) := by first | (rw [hy286]; with_reducible exact H) | (have H2_ := (Option.bind_some _ _).symm.trans H; rw [hy286]; with_reducible exact H2_) | (have H2_ := (Option.bind_some _ _).symm.trans H; with_reducible exact H2_) | with_reducible exact H | (rw [hy286]; exact H) | exact H
    have Ny286 := Aside0.mk hy286
    clear hy286
    simp only [Option.some.injEq, Prod.mk.injEq] at H
    obtain ⟨rfl, rfl, rfl, rfl, rfl⟩ := H
    go_enter Try.func20, Try.ntmps20
    go_wp2_with (first | ((with_reducible refine gate_dst (N := 2) rfl ?_); refine box_event ?hg (N := 2) ?hd (cs := #[.int .i64 0, .string (⟨#[]⟩ : ByteArray), .slice none 0 0, .slice none 0 0, .slice none 0 0]) (t := 58) ?hr ?_; (case hd => rfl); (case hg => rfl); (case hr => first | (go_simp; done) | (go_simp; rfl)); intro gb281 hg w11 hbox hb; have n0_ := Aside0.mk (below_step (by repeat (first | (with_reducible first | exact HB.out | apply below_alloc | apply pw_below_drewN | apply below_drew1) | exact HB.out)) hb); have n1_ := Aside0.mk (hbox); have n2_ := Aside0.mk ((by rw [hg]; exact (below_size (by repeat (first | (with_reducible first | exact HB.out | apply below_alloc | apply pw_below_drewN | apply below_drew1) | exact HB.out))) : w.heap.size ≤ gb281)); have n3_ := Aside0.mk ((by rw [hg]; exact (below_size (by repeat (first | (with_reducible first | exact HB.out | apply below_alloc | apply pw_below_drewN | apply below_drew1) | exact HB.out))) : w.heap.size ≤ gb281)); clear HB; have HB := n0_; have BK281 := n1_; have GW281 := n2_; have GE281 := n3_; clear n0_ n1_ n2_ n3_; clear hb hbox hg) | ((with_reducible refine gate_dst (N := 6) rfl ?_); refine Kd.R_lit k83 _ 83 ?hg (N := 6) ?hd (xs := ([(⟨2, (⟨#[97]⟩ : ByteArray), 1, 3, (⟨0, 0, (⟨#[]⟩ : ByteArray)⟩ : S36)⟩ : S83), (⟨3, (⟨#[98]⟩ : ByteArray), 1, 3, (⟨0, 0, (⟨#[]⟩ : ByteArray)⟩ : S36)⟩ : S83)] : List (S83))) (inner := [.int .i64 2, .string (⟨#[97]⟩ : ByteArray), .int .i64 1, .int .i64 3, .int .i64 0, .int .i64 0, .string (⟨#[]⟩ : ByteArray), .int .i64 3, .string (⟨#[98]⟩ : ByteArray), .int .i64 1, .int .i64 3, .int .i64 0, .int .i64 0, .string (⟨#[]⟩ : ByteArray)]) (ok := fun _ => True) (okp := fun _ => True) ?hr ?hp (fun _ hk => hk) trivial (Below.refl _ _) (Nat.le_refl _) (by simp) ?_; (case hd => rfl); (case hg => rfl); (case hr => first | (go_simp; done) | (go_simp; rfl)); (case hp => exact (Reps.c7 (show Kd.M k83 _ _ _ (⟨2, (⟨#[97]⟩ : ByteArray), 1, 3, (⟨0, 0, (⟨#[]⟩ : ByteArray)⟩ : S36)⟩ : S83) [.int .i64 2, .string (⟨#[97]⟩ : ByteArray), .int .i64 1, .int .i64 3, .int .i64 0, .int .i64 0, .string (⟨#[]⟩ : ByteArray)] from (k83_mkM _ _ _ (⟨2, (⟨#[97]⟩ : ByteArray), 1, 3, (⟨0, 0, (⟨#[]⟩ : ByteArray)⟩ : S36)⟩ : S83) )) (Reps.c7 (show Kd.M k83 _ _ _ (⟨3, (⟨#[98]⟩ : ByteArray), 1, 3, (⟨0, 0, (⟨#[]⟩ : ByteArray)⟩ : S36)⟩ : S83) [.int .i64 3, .string (⟨#[98]⟩ : ByteArray), .int .i64 1, .int .i64 3, .int .i64 0, .int .i64 0, .string (⟨#[]⟩ : ByteArray)] from (k83_mkM _ _ _ (⟨3, (⟨#[98]⟩ : ByteArray), 1, 3, (⟨0, 0, (⟨#[]⟩ : ByteArray)⟩ : S36)⟩ : S83) )) (Reps.none _ _)))); intro v283 w12 ho13 hb hg_ hnew_; clear hg_ hnew_; (first | rw [← Ny282.out] at ho13 | (simp only [Int.reduceToNat] at ho13; rw [← Ny282.out] at ho13)); have n0_ := Aside0.mk (Kd.R_lower ho13 (below_size (by repeat (first | (with_reducible first | exact HB.out | apply below_alloc | apply pw_below_drewN | apply below_drew1 | refine below_set ?_ GE281.out) | exact HB.out)))); have n1_ := Aside0.mk (blk_below (g := gb281) (o := .cells #[.int .i64 0, .string (⟨#[]⟩ : ByteArray), .slice none 0 0, .slice none 0 0, .slice none 0 0] 58 (0, 0)) (by (with_reducible repeat (first | refine blk_drewN ?_ _ | refine blk_drew ?_ | refine blk_alloc ?_ _)); exact BK281.out) hb); have n2_ := Aside0.mk (below_step (by repeat (first | (with_reducible first | exact HB.out | apply below_alloc | apply pw_below_drewN | apply below_drew1 | refine below_set ?_ GE281.out) | exact HB.out)) hb); clear BK281; clear HB; have HO284 := n0_; have BK281 := n1_; have HB := n2_; clear n0_ n1_ n2_; clear hb ho13; obtain ⟨Ao14, co14, eo14⟩ := Kd.R_slice HO284.out; subst eo14) | ((with_reducible refine gate_dst (N := 3) rfl ?_); refine box_event ?hg (N := 3) ?hd (cs := #[.int .i64 0, .string (⟨#[]⟩ : ByteArray), .slice none 0 0, .slice none 0 0, .slice none 0 0]) (t := 58) ?hr ?_; (case hd => rfl); (case hg => rfl); (case hr => first | (go_simp; done) | (go_simp; rfl)); intro gb285 hg w15 hbox hb; have n0_ := Aside0.mk (Kd.R_below (by (with_reducible repeat (first | apply Kd.R_alloc | apply Kd.R_drewN | apply Kd.R_drew)); exact HO284.out) hb); have n1_ := Aside0.mk (blk_below (g := gb281) (o := .cells #[.int .i64 0, .string (⟨#[]⟩ : ByteArray), .slice none 0 0, .slice none 0 0, .slice none 0 0] 58 (0, 0)) (by (with_reducible repeat (first | refine blk_drewN ?_ _ | refine blk_drew ?_ | refine blk_alloc ?_ _)); exact BK281.out) hb); have n2_ := Aside0.mk (below_step (by repeat (first | (with_reducible first | exact HB.out | apply below_alloc | apply pw_below_drewN | apply below_drew1 | refine below_set ?_ GE281.out) | exact HB.out)) hb); have n3_ := Aside0.mk (hbox); have n4_ := Aside0.mk ((by rw [hg]; exact (below_size (by repeat (first | (with_reducible first | exact HB.out | apply below_alloc | apply pw_below_drewN | apply below_drew1 | refine below_set ?_ GE281.out) | exact HB.out))) : w.heap.size ≤ gb285)); have n5_ := Aside0.mk ((by rw [hg]; exact (below_size (by repeat (first | (with_reducible first | exact HB.out | apply below_alloc | apply pw_below_drewN | apply below_drew1 | refine below_set ?_ GE281.out) | exact HB.out))) : w.heap.size ≤ gb285)); have n6_ := Aside0.mk ((by rw [hg]; exact Nat.ne_of_lt (blk_lt (g := gb281) (o := .cells #[.int .i64 0, .string (⟨#[]⟩ : ByteArray), .slice none 0 0, .slice none 0 0, .slice none 0 0] 58 (0, 0)) (by (with_reducible repeat (first | refine blk_drewN ?_ _ | refine blk_drew ?_ | refine blk_alloc ?_ _)); exact BK281.out)) : gb281 ≠ gb285)); have n7_ := Aside0.mk ((by rw [hg]; exact Nat.ne_of_gt (blk_lt (g := gb281) (o := .cells #[.int .i64 0, .string (⟨#[]⟩ : ByteArray), .slice none 0 0, .slice none 0 0, .slice none 0 0] 58 (0, 0)) (by (with_reducible repeat (first | refine blk_drewN ?_ _ | refine blk_drew ?_ | refine blk_alloc ?_ _)); exact BK281.out)) : gb285 ≠ gb281)); clear HO284; clear BK281; clear HB; have HO284 := n0_; have BK281 := n1_; have HB := n2_; have BK285 := n3_; have GW285 := n4_; have GE285 := n5_; have NB281_285 := n6_; have NB285_281 := n7_; clear n0_ n1_ n2_ n3_ n4_ n5_ n6_ n7_; clear hb hbox hg; have hnb16 := NB285_281.out; have hnc16 := NB281_285.out; have hcz17_0 : w15.cell? ⟨gb285, 0, none⟩ = some (.int .i64 0) := (blk_cell BK285.out 0).trans rfl; have hcz17_1 : w15.cell? ⟨gb285, 1, none⟩ = some (.string (⟨#[]⟩ : ByteArray)) := (blk_cell BK285.out 1).trans rfl; have hcz17_2 : w15.cell? ⟨gb285, 2, none⟩ = some (.slice none 0 0) := (blk_cell BK285.out 2).trans rfl; have hcz17_3 : w15.cell? ⟨gb285, 3, none⟩ = some (.slice none 0 0) := (blk_cell BK285.out 3).trans rfl; have hcz17_4 : w15.cell? ⟨gb285, 4, none⟩ = some (.slice none 0 0) := (blk_cell BK285.out 4).trans rfl; have hfz17_0 := blk_frozen BK285.out 0; have hfz17_1 := blk_frozen BK285.out 1; have hfz17_2 := blk_frozen BK285.out 2; have hfz17_3 := blk_frozen BK285.out 3; have hfz17_4 := blk_frozen BK285.out 4) | ((with_reducible refine gate_dst (N := 12) rfl ?_); refine Kd.R_lit k87 _ 87 ?hg (N := 12) ?hd (xs := ([(⟨4, (⟨#[105]⟩ : ByteArray), 3, false, a0⟩ : S87)] : List (S87))) (inner := [.int .i64 4, .string (⟨#[105]⟩ : ByteArray), .int .i64 3, .bool false, .int .i64 a0]) (ok := fun _ => True) (okp := fun _ => True) ?hr ?hp (fun _ hk => hk) trivial (Below.refl _ _) (Nat.le_refl _) (by simp) ?_; (case hd => rfl); (case hg => rfl); (case hr => first | (go_simp; done) | (go_simp; rfl)); (case hp => exact (Reps.c5 (show Kd.M k87 _ _ _ (⟨4, (⟨#[105]⟩ : ByteArray), 3, false, a0⟩ : S87) [.int .i64 4, .string (⟨#[105]⟩ : ByteArray), .int .i64 3, .bool false, .int .i64 a0] from (k87_mkM _ _ _ (⟨4, (⟨#[105]⟩ : ByteArray), 3, false, a0⟩ : S87) )) (Reps.none _ _))); intro v287 w18 ho19 hb hg_ hnew_; clear hg_ hnew_; (first | rw [← Ny286.out] at ho19 | (simp only [Int.reduceToNat] at ho19; rw [← Ny286.out] at ho19)); have n0_ := Aside0.mk (Kd.R_below (by (with_reducible repeat (first | apply Kd.R_alloc | apply Kd.R_drewN | apply Kd.R_drew)); exact (Kd.R_mono (Kd.R_far (p := ⟨gb285, 4, none⟩) (Kd.R_far (p := ⟨gb285, 3, none⟩) (Kd.R_far (p := ⟨gb285, 2, none⟩) (Kd.R_far (p := ⟨gb285, 1, none⟩) (Kd.R_far (p := ⟨gb285, 0, none⟩) (Kd.R_types HO284.out BK285.out (by decide)) (fun _ hk => hk.2) (.int .i64 1)) (fun _ hk => hk.2) (.string (⟨#[116]⟩ : ByteArray))) (fun _ hk => hk.2) (.slice Ao14 y282.length co14)) (fun _ hk => hk.2) (.slice none 0 0)) (fun _ hk => hk.2) (.slice none 0 0)) (fun _ h_ => h_.1))) hb); have n1_ := Aside0.mk (Kd.R_lower ho19 (below_size (by repeat (first | (with_reducible first | exact HB.out | apply below_alloc | apply pw_below_drewN | apply below_drew1 | refine below_set ?_ GE281.out | refine below_set ?_ GE285.out) | exact HB.out)))); have n2_ := Aside0.mk (blk_below (g := gb281) (o := .cells #[.int .i64 0, .string (⟨#[]⟩ : ByteArray), .slice none 0 0, .slice none 0 0, .slice none 0 0] 58 (0, 0)) (by (with_reducible repeat (first | refine blk_drewN ?_ _ | refine blk_drew ?_ | refine blk_alloc ?_ _)); refine blk_far ?_ NB281_285.out _; (with_reducible repeat (first | refine blk_drewN ?_ _ | refine blk_drew ?_ | refine blk_alloc ?_ _)); refine blk_far ?_ NB281_285.out _; (with_reducible repeat (first | refine blk_drewN ?_ _ | refine blk_drew ?_ | refine blk_alloc ?_ _)); refine blk_far ?_ NB281_285.out _; (with_reducible repeat (first | refine blk_drewN ?_ _ | refine blk_drew ?_ | refine blk_alloc ?_ _)); refine blk_far ?_ NB281_285.out _; (with_reducible repeat (first | refine blk_drewN ?_ _ | refine blk_drew ?_ | refine blk_alloc ?_ _)); refine blk_far ?_ NB281_285.out _; (with_reducible repeat (first | refine blk_drewN ?_ _ | refine blk_drew ?_ | refine blk_alloc ?_ _)); exact BK281.out) hb); have n3_ := Aside0.mk (blk_below (g := gb285) (o := .cells #[.int .i64 1, .string (⟨#[116]⟩ : ByteArray), .slice Ao14 y282.length co14, .slice none 0 0, .slice none 0 0] 58 (0, 0)) (by (with_reducible repeat (first | refine blk_drewN ?_ _ | refine blk_drew ?_ | refine blk_alloc ?_ _)); refine blk_put (cs := #[.int .i64 1, .string (⟨#[116]⟩ : ByteArray), .slice Ao14 y282.length co14, .slice none 0 0, .slice none 0 0]) ?_ 4 _ rfl; (with_reducible repeat (first | refine blk_drewN ?_ _ | refine blk_drew ?_ | refine blk_alloc ?_ _)); refine blk_put (cs := #[.int .i64 1, .string (⟨#[116]⟩ : ByteArray), .slice Ao14 y282.length co14, .slice none 0 0, .slice none 0 0]) ?_ 3 _ rfl; (with_reducible repeat (first | refine blk_drewN ?_ _ | refine blk_drew ?_ | refine blk_alloc ?_ _)); refine blk_put (cs := #[.int .i64 1, .string (⟨#[116]⟩ : ByteArray), .slice none 0 0, .slice none 0 0, .slice none 0 0]) ?_ 2 _ rfl; (with_reducible repeat (first | refine blk_drewN ?_ _ | refine blk_drew ?_ | refine blk_alloc ?_ _)); refine blk_put (cs := #[.int .i64 1, .string (⟨#[]⟩ : ByteArray), .slice none 0 0, .slice none 0 0, .slice none 0 0]) ?_ 1 _ rfl; (with_reducible repeat (first | refine blk_drewN ?_ _ | refine blk_drew ?_ | refine blk_alloc ?_ _)); refine blk_put (cs := #[.int .i64 0, .string (⟨#[]⟩ : ByteArray), .slice none 0 0, .slice none 0 0, .slice none 0 0]) ?_ 0 _ rfl; (with_reducible repeat (first | refine blk_drewN ?_ _ | refine blk_drew ?_ | refine blk_alloc ?_ _)); exact BK285.out) hb); have n4_ := Aside0.mk (below_step (by repeat (first | (with_reducible first | exact HB.out | apply below_alloc | apply pw_below_drewN | apply below_drew1 | refine below_set ?_ GE281.out | refine below_set ?_ GE285.out) | exact HB.out)) hb); clear HO284; clear BK281; clear BK285; clear HB; have HO284 := n0_; have HO288 := n1_; have BK281 := n2_; have BK285 := n3_; have HB := n4_; clear n0_ n1_ n2_ n3_ n4_; clear hb ho19; obtain ⟨Ao20, co20, eo20⟩ := Kd.R_slice HO288.out; subst eo20; have hcz21_0 : w18.cell? ⟨gb285, 0, none⟩ = some (.int .i64 1) := (blk_cell BK285.out 0).trans rfl; have hcz21_1 : w18.cell? ⟨gb285, 1, none⟩ = some (.string (⟨#[116]⟩ : ByteArray)) := (blk_cell BK285.out 1).trans rfl; have hcz21_2 : w18.cell? ⟨gb285, 2, none⟩ = some (.slice Ao14 y282.length co14) := (blk_cell BK285.out 2).trans rfl; have hcz21_3 : w18.cell? ⟨gb285, 3, none⟩ = some (.slice none 0 0) := (blk_cell BK285.out 3).trans rfl; have hcz21_4 : w18.cell? ⟨gb285, 4, none⟩ = some (.slice none 0 0) := (blk_cell BK285.out 4).trans rfl; have hfz21_0 := blk_frozen BK285.out 0; have hfz21_1 := blk_frozen BK285.out 1; have hfz21_2 := blk_frozen BK285.out 2; have hfz21_3 := blk_frozen BK285.out 3; have hfz21_4 := blk_frozen BK285.out 4; have hcz22_0 : w18.cell? ⟨gb281, 0, none⟩ = some (.int .i64 0) := (blk_cell BK281.out 0).trans rfl; have hcz22_1 : w18.cell? ⟨gb281, 1, none⟩ = some (.string (⟨#[]⟩ : ByteArray)) := (blk_cell BK281.out 1).trans rfl; have hcz22_2 : w18.cell? ⟨gb281, 2, none⟩ = some (.slice none 0 0) := (blk_cell BK281.out 2).trans rfl; have hcz22_3 : w18.cell? ⟨gb281, 3, none⟩ = some (.slice none 0 0) := (blk_cell BK281.out 3).trans rfl; have hcz22_4 : w18.cell? ⟨gb281, 4, none⟩ = some (.slice none 0 0) := (blk_cell BK281.out 4).trans rfl; have hfz22_0 := blk_frozen BK281.out 0; have hfz22_1 := blk_frozen BK281.out 1; have hfz22_2 := blk_frozen BK281.out 2; have hfz22_3 := blk_frozen BK281.out 3; have hfz22_4 := blk_frozen BK281.out 4))
    refine bodyPost_ret (results_cell_row rfl _ _ gb281 58 #[.int .i64 1, .string (⟨#[116]⟩ : ByteArray), .slice Ao14 y282.length co14, .slice Ao20 y286.length co20, .slice none 0 0] (0, 0) _ rfl (by (with_reducible repeat (first | refine blk_drewN ?_ _ | refine blk_drew ?_ | refine blk_alloc ?_ _)); refine blk_put (cs := #[.int .i64 1, .string (⟨#[116]⟩ : ByteArray), .slice Ao14 y282.length co14, .slice Ao20 y286.length co20, .slice none 0 0]) ?_ 4 _ rfl; (with_reducible repeat (first | refine blk_drewN ?_ _ | refine blk_drew ?_ | refine blk_alloc ?_ _)); refine blk_put (cs := #[.int .i64 1, .string (⟨#[116]⟩ : ByteArray), .slice Ao14 y282.length co14, .slice none 0 0, .slice none 0 0]) ?_ 3 _ rfl; (with_reducible repeat (first | refine blk_drewN ?_ _ | refine blk_drew ?_ | refine blk_alloc ?_ _)); refine blk_put (cs := #[.int .i64 1, .string (⟨#[116]⟩ : ByteArray), .slice none 0 0, .slice none 0 0, .slice none 0 0]) ?_ 2 _ rfl; (with_reducible repeat (first | refine blk_drewN ?_ _ | refine blk_drew ?_ | refine blk_alloc ?_ _)); refine blk_put (cs := #[.int .i64 1, .string (⟨#[]⟩ : ByteArray), .slice none 0 0, .slice none 0 0, .slice none 0 0]) ?_ 1 _ rfl; (with_reducible repeat (first | refine blk_drewN ?_ _ | refine blk_drew ?_ | refine blk_alloc ?_ _)); refine blk_put (cs := #[.int .i64 0, .string (⟨#[]⟩ : ByteArray), .slice none 0 0, .slice none 0 0, .slice none 0 0]) ?_ 0 _ rfl; (with_reducible repeat (first | refine blk_drewN ?_ _ | refine blk_drew ?_ | refine blk_alloc ?_ _)); refine blk_far ?_ NB281_285.out _; (with_reducible repeat (first | refine blk_drewN ?_ _ | refine blk_drew ?_ | refine blk_alloc ?_ _)); exact BK281.out) Try.underlying58 rfl (by kernel_rfl)) rfl ?_
    exact ⟨_, _, _, by first | rfl | (simp [errW_none, errW_some] <;> rfl) | (simp [*, errW_none, errW_some] <;> rfl), by (with_reducible repeat (first | apply Kd.R_alloc | apply Kd.R_drewN | apply Kd.R_drew)); exact Kd.R_mono (Kd.R_far (p := ⟨gb281, 4, none⟩) (Kd.R_far (p := ⟨gb281, 3, none⟩) (Kd.R_far (p := ⟨gb281, 2, none⟩) (Kd.R_far (p := ⟨gb281, 1, none⟩) (Kd.R_far (p := ⟨gb281, 0, none⟩) (Kd.R_far (p := ⟨gb285, 3, none⟩) (Kd.R_types (Kd.R_types HO284.out BK285.out (by decide)) BK281.out (by decide)) (fun _ hk => hk.1.2) (.slice Ao20 y286.length co20)) (fun _ hk => hk.2) (.int .i64 1)) (fun _ hk => hk.2) (.string (⟨#[116]⟩ : ByteArray))) (fun _ hk => hk.2) (.slice Ao14 y282.length co14)) (fun _ hk => hk.2) (.slice Ao20 y286.length co20)) (fun _ hk => hk.2) (.slice none 0 0)) (fun _ hk => trivial), by (with_reducible repeat (first | apply Kd.R_alloc | apply Kd.R_drewN | apply Kd.R_drew)); exact Kd.R_mono (Kd.R_far (p := ⟨gb281, 4, none⟩) (Kd.R_far (p := ⟨gb281, 3, none⟩) (Kd.R_far (p := ⟨gb281, 2, none⟩) (Kd.R_far (p := ⟨gb281, 1, none⟩) (Kd.R_far (p := ⟨gb281, 0, none⟩) (Kd.R_far (p := ⟨gb285, 3, none⟩) (Kd.R_types (Kd.R_types HO288.out BK285.out (by decide)) BK281.out (by decide)) (fun _ hk => hk.1.2) (.slice Ao20 y286.length co20)) (fun _ hk => hk.2) (.int .i64 1)) (fun _ hk => hk.2) (.string (⟨#[116]⟩ : ByteArray))) (fun _ hk => hk.2) (.slice Ao14 y282.length co14)) (fun _ hk => hk.2) (.slice Ao20 y286.length co20)) (fun _ hk => hk.2) (.slice none 0 0)) (fun _ hk => trivial), by first | exact Kd.R_nil _ _ _ _ _ | exact Kd.N_nil _ _ _ _ _ | exact Kd.V_nil _ _ _ _ _ | exact Kd.Q_nil _ _ _ _ _ | exact Kd.S_nil _ _ _ _ _, by repeat (first | (with_reducible first | exact HB.out | apply below_alloc | apply pw_below_drewN | apply below_drew1 | refine below_set ?_ GE281.out | refine below_set ?_ GE285.out) | exact HB.out)⟩

/-! ### lintellaw20_cells: function 21 -/
def lintellaw20_cells.f (a0 : Int) (a1 : Int) : Option ((List (S73))) := some (([(⟨2, (⟨1, a0, (⟨#[]⟩ : ByteArray)⟩ : S36)⟩ : S73), (⟨3, (⟨1, a1, (⟨#[]⟩ : ByteArray)⟩ : S36)⟩ : S73)] : List (S73)))
set_option maxHeartbeats 8000000 in
set_option maxRecDepth 100000 in
theorem lintellaw20_cells.calls (a0 : Int) (a1 : Int) (r : List (S73)) (w : World) (h : lintellaw20_cells.f a0 a1 = some r) :
    Calls Try.prog 21 #[.int .i64 a0, .int .i64 a1] w fun e w' => ∃ v0_ : Value, e = .returned (v0_) ∧ Kd.R k73 73 w' w.heap.size (fun _ => True) v0_ r ∧ Below w.heap.size w w' := by
  have hu36 := Try.underlying36
  have hu73 := Try.underlying73
  have HB := Aside0.mk (Below.refl w.heap.size w)
  have H : (some (([(⟨2, (⟨1, a0, (⟨#[]⟩ : ByteArray)⟩ : S36)⟩ : S73), (⟨3, (⟨1, a1, (⟨#[]⟩ : ByteArray)⟩ : S36)⟩ : S73)] : List (S73)))) = some r := h
  clear h
  obtain ⟨y289, hy289⟩ : ∃ y_ : List (S73), y_ = (([(⟨2, (⟨1, a0, (⟨#[]⟩ : ByteArray)⟩ : S36)⟩ : S73), (⟨3, (⟨1, a1, (⟨#[]⟩ : ByteArray)⟩ : S36)⟩ : S73)] : List (S73))) := ⟨_, rfl⟩
  replace H : (some y289) = some r := by first | (rw [hy289]; with_reducible exact H) | (have H2_ := (Option.bind_some _ _).symm.trans H; rw [hy289]; with_reducible exact H2_) | (have H2_ := (Option.bind_some _ _).symm.trans H; with_reducible exact H2_) | with_reducible exact H | (rw [hy289]; exact H) | exact H
  have Ny289 := Aside0.mk hy289
  clear hy289
  obtain rfl := Option.some.inj H
  go_enter Try.func21, Try.ntmps21
  go_wp2_with (first | ((with_reducible refine gate_dst (N := 11) rfl ?_); refine Kd.R_lit k73 _ 73 ?hg (N := 11) ?hd (xs := ([(⟨2, (⟨1, a0, (⟨#[]⟩ : ByteArray)⟩ : S36)⟩ : S73), (⟨3, (⟨1, a1, (⟨#[]⟩ : ByteArray)⟩ : S36)⟩ : S73)] : List (S73))) (inner := [.int .i64 2, .int .i64 1, .int .i64 a0, .string (⟨#[]⟩ : ByteArray), .int .i64 3, .int .i64 1, .int .i64 a1, .string (⟨#[]⟩ : ByteArray)]) (ok := fun _ => True) (okp := fun _ => True) ?hr ?hp (fun _ hk => hk) trivial (Below.refl _ _) (Nat.le_refl _) (by simp) ?_; (case hd => rfl); (case hg => rfl); (case hr => first | (go_simp; done) | (go_simp; rfl)); (case hp => exact (Reps.c4 (show Kd.M k73 _ _ _ (⟨2, (⟨1, a0, (⟨#[]⟩ : ByteArray)⟩ : S36)⟩ : S73) [.int .i64 2, .int .i64 1, .int .i64 a0, .string (⟨#[]⟩ : ByteArray)] from (k73_mkM _ _ _ (⟨2, (⟨1, a0, (⟨#[]⟩ : ByteArray)⟩ : S36)⟩ : S73) )) (Reps.c4 (show Kd.M k73 _ _ _ (⟨3, (⟨1, a1, (⟨#[]⟩ : ByteArray)⟩ : S36)⟩ : S73) [.int .i64 3, .int .i64 1, .int .i64 a1, .string (⟨#[]⟩ : ByteArray)] from (k73_mkM _ _ _ (⟨3, (⟨1, a1, (⟨#[]⟩ : ByteArray)⟩ : S36)⟩ : S73) )) (Reps.none _ _)))); intro v290 w3 ho4 hb hg_ hnew_; clear hg_ hnew_; (first | rw [← Ny289.out] at ho4 | (simp only [Int.reduceToNat] at ho4; rw [← Ny289.out] at ho4)); have n0_ := Aside0.mk (Kd.R_lower ho4 (below_size (by repeat (first | (with_reducible first | exact HB.out | apply below_alloc | apply pw_below_drewN | apply below_drew1) | exact HB.out)))); have n1_ := Aside0.mk (below_step (by repeat (first | (with_reducible first | exact HB.out | apply below_alloc | apply pw_below_drewN | apply below_drew1) | exact HB.out)) hb); clear HB; have HO291 := n0_; have HB := n1_; clear n0_ n1_; clear hb ho4))
  go_ret
  exact ⟨_, by first | rfl | (simp [errW_none, errW_some] <;> rfl) | (simp [*, errW_none, errW_some] <;> rfl), by (with_reducible repeat (first | apply Kd.R_alloc | apply Kd.R_drewN | apply Kd.R_drew)); exact HO291.out, by repeat (first | (with_reducible first | exact HB.out | apply below_alloc | apply pw_below_drewN | apply below_drew1) | exact HB.out)⟩

end Go.Proofs.Ytkhbmamcbhjafaa.PRef
