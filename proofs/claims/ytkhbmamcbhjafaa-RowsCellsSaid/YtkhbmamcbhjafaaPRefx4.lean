/- Plain Lean functions for Go functions, and their contracts: written by a program (the kit's printer) over a list of functions. -/
import Derived.Test.YtkhbmamcbhjafaaPRefx0
import Derived.Test.YtkhbmamcbhjafaaPRefx2
namespace Go.Proofs.Ytkhbmamcbhjafaa.PRef
open Go.RowKit Go.Proofs.YtkhbmamcbhjafaaW.PrintWords Go.Proofs.YtkhbmamcbhjafaaW.PrintLast Go.Proofs.YtkhbmamcbhjafaaW.PrintMore
attribute [local go_sem] max2_int min2_int max_two min_two max_three min_three max_four min_four   -- for this text's walks alone
set_option linter.unusedVariables false
set_option linter.unusedSimpArgs false

/-! ### lintelref02_first: function 46 -/
mutual
def lintelref02_first.j0 : Nat → ByteArray → Bool → Option (Int × Int × ByteArray × Int)
  | 0, _, _ => none
  | k + 1, x0, x19 => if x19 = true then (lintelref02_first.l0 k x0 0 1) else (if 0 < (x0.size : Int) then (if (bt x0 0) = 3 then (lintelref02_first.l1 k x0 ([] : List Int) 1) else (some (0, 0, (⟨#[]⟩ : ByteArray), 0))) else (none))
def lintelref02_first.l0 : Nat → ByteArray → Int → Int → Option (Int × Int × ByteArray × Int)
  | 0, _, _, _ => none
  | k + 1, x0, x4, x5 => if x5 < 9 then (if 0 ≤ x5 then (if x5 < (x0.size : Int) then (lintelref02_first.l0 k x0 (IntKind.u64.wrap ((IntKind.u64.wrap (x4 * 256)) + (IntKind.u64.wrap (bt x0 x5)))) (wrap64 (x5 + 1))) else (none)) else (none)) else (some (1, wrap64 (IntKind.u64.wrap (x4 - 9223372036854775808)), (⟨#[]⟩ : ByteArray), 9))
def lintelref02_first.l1 : Nat → ByteArray → List Int → Int → Option (Int × Int × ByteArray × Int)
  | 0, _, _, _ => none
  | k + 1, x0, x6, x7 => if (wrap64 (x7 + 1)) < (x0.size : Int) then (if 0 ≤ x7 then (if x7 < (x0.size : Int) then (if (bt x0 x7) = 0 then (if 0 ≤ (wrap64 (x7 + 1)) then (lintelref02_first.j3 k x0 x6 x7 ((bt x0 (wrap64 (x7 + 1))) == 1)) else (none)) else (lintelref02_first.j3 k x0 x6 x7 false)) else (none)) else (none)) else (some (0, 0, (⟨#[]⟩ : ByteArray), 0))
def lintelref02_first.j3 : Nat → ByteArray → List Int → Int → Bool → Option (Int × Int × ByteArray × Int)
  | 0, _, _, _, _ => none
  | k + 1, x0, x6, x7, x56 => if x56 = true then (some (2, 0, strOfNums x6, wrap64 (x7 + 2))) else (if 0 ≤ x7 then (if x7 < (x0.size : Int) then (if x6.length < 140737488355328 then ((some (x6 ++ [bt x0 x7] : List Int)).bind fun y152 => (if (bt x0 x7) = 0 then (if 0 ≤ (wrap64 (x7 + 1)) then (if (wrap64 (x7 + 1)) < (x0.size : Int) then (if (bt x0 (wrap64 (x7 + 1))) = 255 then (lintelref02_first.l1 k x0 y152 (wrap64 ((wrap64 (x7 + 1)) + 1))) else (some (0, 0, (⟨#[]⟩ : ByteArray), 0))) else (none)) else (none)) else (lintelref02_first.l1 k x0 y152 (wrap64 (x7 + 1))))) else (none)) else (none)) else (none))
end
def lintelref02_first.f (k : Nat) (a0 : ByteArray) : Option (Int × Int × ByteArray × Int) := if 0 < (a0.size : Int) then (if (bt a0 0) = 1 then (some (0, 0, (⟨#[]⟩ : ByteArray), 1)) else (if (bt a0 0) = 2 then (lintelref02_first.j0 k a0 (decide ((a0.size : Int) ≥ 9))) else (lintelref02_first.j0 k a0 false))) else (none)
theorem lintelref02_first.mono_l : ∀ k, (∀ y0 y1, LeO (lintelref02_first.j0 k y0 y1) (lintelref02_first.j0 (k + 1) y0 y1)) ∧ (∀ y0 y1 y2, LeO (lintelref02_first.l0 k y0 y1 y2) (lintelref02_first.l0 (k + 1) y0 y1 y2)) ∧ (∀ y0 y1 y2, LeO (lintelref02_first.l1 k y0 y1 y2) (lintelref02_first.l1 (k + 1) y0 y1 y2)) ∧ (∀ y0 y1 y2 y3, LeO (lintelref02_first.j3 k y0 y1 y2 y3) (lintelref02_first.j3 (k + 1) y0 y1 y2 y3))
  | 0 => ⟨fun _ _ r h => by simp [lintelref02_first.j0] at h, fun _ _ _ r h => by simp [lintelref02_first.l0] at h, fun _ _ _ r h => by simp [lintelref02_first.l1] at h, fun _ _ _ _ r h => by simp [lintelref02_first.j3] at h⟩
  | k + 1 => by
    obtain ⟨ih0, ih1, ih2, ih3⟩ := lintelref02_first.mono_l k
    refine ⟨?_, ?_, ?_, ?_⟩
    · intro y0 y1
      unfold lintelref02_first.j0
      repeat' first
      | (with_reducible exact ih0 _ _)
      | (with_reducible exact ih1 _ _ _)
      | (with_reducible exact ih2 _ _ _)
      | (with_reducible exact ih3 _ _ _ _)
      | (with_reducible exact LeO.refl _)
      | (with_reducible exact LeO.none _)
      | (with_reducible refine LeO.ite ?_ ?_)
      | (with_reducible refine LeO.bind ?_ (fun _ => ?_))
      | exact ih0 _ _
      | exact ih1 _ _ _
      | exact ih2 _ _ _
      | exact ih3 _ _ _ _
      | exact LeO.none _
      | refine LeO.ite ?_ ?_
      | refine LeO.bind ?_ (fun _ => ?_)
    · intro y0 y1 y2
      unfold lintelref02_first.l0
      repeat' first
      | (with_reducible exact ih0 _ _)
      | (with_reducible exact ih1 _ _ _)
      | (with_reducible exact ih2 _ _ _)
      | (with_reducible exact ih3 _ _ _ _)
      | (with_reducible exact LeO.refl _)
      | (with_reducible exact LeO.none _)
      | (with_reducible refine LeO.ite ?_ ?_)
      | (with_reducible refine LeO.bind ?_ (fun _ => ?_))
      | exact ih0 _ _
      | exact ih1 _ _ _
      | exact ih2 _ _ _
      | exact ih3 _ _ _ _
      | exact LeO.none _
      | refine LeO.ite ?_ ?_
      | refine LeO.bind ?_ (fun _ => ?_)
    · intro y0 y1 y2
      unfold lintelref02_first.l1
      repeat' first
      | (with_reducible exact ih0 _ _)
      | (with_reducible exact ih1 _ _ _)
      | (with_reducible exact ih2 _ _ _)
      | (with_reducible exact ih3 _ _ _ _)
      | (with_reducible exact LeO.refl _)
      | (with_reducible exact LeO.none _)
      | (with_reducible refine LeO.ite ?_ ?_)
      | (with_reducible refine LeO.bind ?_ (fun _ => ?_))
      | exact ih0 _ _
      | exact ih1 _ _ _
      | exact ih2 _ _ _
      | exact ih3 _ _ _ _
      | exact LeO.none _
      | refine LeO.ite ?_ ?_
      | refine LeO.bind ?_ (fun _ => ?_)
    · intro y0 y1 y2 y3
      unfold lintelref02_first.j3
      repeat' first
      | (with_reducible exact ih0 _ _)
      | (with_reducible exact ih1 _ _ _)
      | (with_reducible exact ih2 _ _ _)
      | (with_reducible exact ih3 _ _ _ _)
      | (with_reducible exact LeO.refl _)
      | (with_reducible exact LeO.none _)
      | (with_reducible refine LeO.ite ?_ ?_)
      | (with_reducible refine LeO.bind ?_ (fun _ => ?_))
      | exact ih0 _ _
      | exact ih1 _ _ _
      | exact ih2 _ _ _
      | exact ih3 _ _ _ _
      | exact LeO.none _
      | refine LeO.ite ?_ ?_
      | refine LeO.bind ?_ (fun _ => ?_)
theorem lintelref02_first.mono : ∀ a0 k, LeO (lintelref02_first.f k a0) (lintelref02_first.f (k + 1) a0) := by
  intro a0 k
  obtain ⟨ih0, ih1, ih2, ih3⟩ := lintelref02_first.mono_l k
  unfold lintelref02_first.f
  repeat' first
      | (with_reducible exact ih0 _ _)
      | (with_reducible exact ih1 _ _ _)
      | (with_reducible exact ih2 _ _ _)
      | (with_reducible exact ih3 _ _ _ _)
      | (with_reducible exact LeO.refl _)
      | (with_reducible exact LeO.none _)
      | (with_reducible refine LeO.ite ?_ ?_)
      | (with_reducible refine LeO.bind ?_ (fun _ => ?_))
      | exact ih0 _ _
      | exact ih1 _ _ _
      | exact ih2 _ _ _
      | exact ih3 _ _ _ _
      | exact LeO.none _
      | refine LeO.ite ?_ ?_
      | refine LeO.bind ?_ (fun _ => ?_)
set_option maxHeartbeats 8000000 in
set_option maxRecDepth 100000 in
theorem lintelref02_first.calls (k : Nat) (a0 : ByteArray) (r1 : Int) (r2 : Int) (r3 : ByteArray) (r4 : Int) (w : World) (h : lintelref02_first.f k a0 = some (r1, r2, r3, r4)) :
    Calls Try.prog 46 #[.string a0] w fun e w' => e = .returned (.tuple #[.agg #[.int .i64 r1, .int .i64 r2, .string r3], .int .i64 r4]) ∧ Below w.heap.size w w' := by
  have hu36 := Try.underlying36
  have HB := Aside0.mk (Below.refl w.heap.size w)
  have H : (if 0 < (a0.size : Int) then (if (bt a0 0) = 1 then (some (0, 0, (⟨#[]⟩ : ByteArray), 1)) else (if (bt a0 0) = 2 then (lintelref02_first.j0 k a0 (decide ((a0.size : Int) ≥ 9))) else (lintelref02_first.j0 k a0 false))) else (none)) = some (r1, r2, r3, r4) := h
  clear h
  by_cases c2 : 0 < (a0.size : Int)
  · rw [if_pos c2] at H
    have c2b0 : decide (0 < (a0.size : Int)) = true := decide_eq_true c2
    have c2b1 : decide (0 < a0.size) = true := decide_eq_true (by omega)
    clear c2
    by_cases c4 : (bt a0 0) = 1
    · rw [if_pos c4] at H
      have c4b0 : ((bt a0 0) == 1) = true := beq_iff_eq.mpr c4
      have c4b1 : ((bt a0 0) != 1) = false := bne_eq_false_iff_eq.mpr c4
      clear c4
      simp only [Option.some.injEq, Prod.mk.injEq] at H
      obtain ⟨rfl, rfl, rfl, rfl⟩ := H
      go_enter Try.func46, Try.ntmps46
      go_wp2_with (first | ((with_reducible refine gate_dst (N := 2) rfl ?_); (try (refine gate_guard (by rfl) ?_; dsimp only)); refine box_event ?hg (N := 2) ?hd (cs := #[.int .i64 0, .int .i64 0, .string (⟨#[]⟩ : ByteArray)]) (t := 36) ?hr ?_; (case hd => rfl); (case hg => rfl); (case hr => first | (go_simp; done) | (go_simp; rfl)); intro gb151 hg w5 hbox hb; have n0_ := Aside0.mk (below_step (by repeat (first | (with_reducible first | exact HB.out | apply below_alloc | apply pw_below_drewN | apply below_drew1) | exact HB.out)) hb); have n1_ := Aside0.mk (hbox); have n2_ := Aside0.mk ((by rw [hg]; exact (below_size (by repeat (first | (with_reducible first | exact HB.out | apply below_alloc | apply pw_below_drewN | apply below_drew1) | exact HB.out))) : w.heap.size ≤ gb151)); have n3_ := Aside0.mk ((by rw [hg]; exact (below_size (by repeat (first | (with_reducible first | exact HB.out | apply below_alloc | apply pw_below_drewN | apply below_drew1) | exact HB.out))) : w.heap.size ≤ gb151)); clear HB; have HB := n0_; have BK151 := n1_; have GW151 := n2_; have GE151 := n3_; clear n0_ n1_ n2_ n3_; clear hb hbox hg; have p3 : 0 ≤ (0 : Int) := (by omega); have q3 : 0 < a0.size := (by have : (0 : Int) < (a0.size : Int) := of_decide_eq_true (by first | (with_reducible assumption) | assumption); omega); have hx3 : ∀ h : 0 < a0.size, ((a0[0]'h).toNat : Int) = bt a0 0 := bt_at a0 0; clear p3; have qi3 : (0 < (a0.size : Int)) = True := eq_true (of_decide_eq_true (by first | (with_reducible assumption) | assumption)); replace q3 := eq_true q3; have hcz6_0 : w5.cell? ⟨gb151, 0, none⟩ = some (.int .i64 0) := (blk_cell BK151.out 0).trans rfl; have hcz6_1 : w5.cell? ⟨gb151, 1, none⟩ = some (.int .i64 0) := (blk_cell BK151.out 1).trans rfl; have hcz6_2 : w5.cell? ⟨gb151, 2, none⟩ = some (.string (⟨#[]⟩ : ByteArray)) := (blk_cell BK151.out 2).trans rfl; have hfz6_0 := blk_frozen BK151.out 0; have hfz6_1 := blk_frozen BK151.out 1; have hfz6_2 := blk_frozen BK151.out 2))
      refine bodyPost_ret (results_ct rfl _ _ gb151 36 #[.int .i64 0, .int .i64 0, .string (⟨#[]⟩ : ByteArray)] (0, 0) _ rfl (by (with_reducible repeat (first | refine blk_drewN ?_ _ | refine blk_drew ?_ | refine blk_alloc ?_ _)); refine blk_put (cs := #[.int .i64 0, .int .i64 0, .string (⟨#[]⟩ : ByteArray)]) ?_ 2 _ rfl; (with_reducible repeat (first | refine blk_drewN ?_ _ | refine blk_drew ?_ | refine blk_alloc ?_ _)); refine blk_put (cs := #[.int .i64 0, .int .i64 0, .string (⟨#[]⟩ : ByteArray)]) ?_ 1 _ rfl; (with_reducible repeat (first | refine blk_drewN ?_ _ | refine blk_drew ?_ | refine blk_alloc ?_ _)); refine blk_put (cs := #[.int .i64 0, .int .i64 0, .string (⟨#[]⟩ : ByteArray)]) ?_ 0 _ rfl; (with_reducible repeat (first | refine blk_drewN ?_ _ | refine blk_drew ?_ | refine blk_alloc ?_ _)); exact BK151.out) Try.underlying36 rfl (by kernel_rfl)) rfl ?_
      exact ⟨by first | rfl | (simp [errW_none, errW_some] <;> rfl) | (simp [*, errW_none, errW_some] <;> rfl), by repeat (first | (with_reducible first | exact HB.out | apply below_alloc | apply pw_below_drewN | apply below_drew1 | refine below_set ?_ GE151.out) | exact HB.out)⟩
    · rw [if_neg c4] at H
      have c4b0 : ((bt a0 0) == 1) = false := beq_eq_false_iff_ne.mpr c4
      have c4b1 : ((bt a0 0) != 1) = true := bne_iff_ne.mpr c4
      have HC7 := Aside0.mk H
      clear H
      go_enter Try.func46, Try.ntmps46
      go_upto_region 3 with (first | ((with_reducible refine gate_dst (N := 2) rfl ?_); (try (refine gate_guard (by rfl) ?_; dsimp only)); refine box_event ?hg (N := 2) ?hd (cs := #[.int .i64 0, .int .i64 0, .string (⟨#[]⟩ : ByteArray)]) (t := 36) ?hr ?_; (case hd => rfl); (case hg => rfl); (case hr => first | (go_simp; done) | (go_simp; rfl)); intro gb151 hg w8 hbox hb; have n0_ := Aside0.mk (below_step (by repeat (first | (with_reducible first | exact HB.out | apply below_alloc | apply pw_below_drewN | apply below_drew1) | exact HB.out)) hb); have n1_ := Aside0.mk (hbox); have n2_ := Aside0.mk ((by rw [hg]; exact (below_size (by repeat (first | (with_reducible first | exact HB.out | apply below_alloc | apply pw_below_drewN | apply below_drew1) | exact HB.out))) : w.heap.size ≤ gb151)); have n3_ := Aside0.mk ((by rw [hg]; exact (below_size (by repeat (first | (with_reducible first | exact HB.out | apply below_alloc | apply pw_below_drewN | apply below_drew1) | exact HB.out))) : w.heap.size ≤ gb151)); clear HB; have HB := n0_; have BK151 := n1_; have GW151 := n2_; have GE151 := n3_; clear n0_ n1_ n2_ n3_; clear hb hbox hg; have p3 : 0 ≤ (0 : Int) := (by omega); have q3 : 0 < a0.size := (by have : (0 : Int) < (a0.size : Int) := of_decide_eq_true (by first | (with_reducible assumption) | assumption); omega); have hx3 : ∀ h : 0 < a0.size, ((a0[0]'h).toNat : Int) = bt a0 0 := bt_at a0 0; clear p3; have qi3 : (0 < (a0.size : Int)) = True := eq_true (of_decide_eq_true (by first | (with_reducible assumption) | assumption)); replace q3 := eq_true q3))
      (try simp only [Act.put, List.setIfInBounds_toArray, List.set_cons_zero, List.set_cons_succ])
      go_cut [19] (fun v19 wc => ∃ (kq : Nat) (x19_6 : Bool), v19 = .bool x19_6 ∧ Aside0 (lintelref02_first.j0 kq a0 x19_6 = some (r1, r2, r3, r4)) ∧ Aside0 (kq ≤ k) ∧ Aside0 (wc.heap[gb151]? = some (.cells #[.int .i64 0, .int .i64 0, .string (⟨#[]⟩ : ByteArray)] 36 (0, 0))) ∧ Aside0 (Below w.heap.size w wc))
      case first =>
        have H := HC7.out
        clear HC7
        by_cases c10 : (bt a0 0) = 2
        · rw [if_pos c10] at H
          have c10b0 : ((bt a0 0) == 2) = true := beq_iff_eq.mpr c10
          have c10b1 : ((bt a0 0) != 2) = false := bne_eq_false_iff_eq.mpr c10
          clear c10
          (first | rw [c10b0] | (simp only [i64_w, i32_w]; rw [c10b0]) | skip)
          have H' := Aside0.mk H
          clear H
          have p9 : 0 ≤ (0 : Int) := (by omega)
          have q9 : 0 < a0.size := (by have : (0 : Int) < (a0.size : Int) := of_decide_eq_true (by first | (with_reducible assumption) | assumption); omega)
          have hx9 : ∀ h : 0 < a0.size, ((a0[0]'h).toNat : Int) = bt a0 0 := bt_at a0 0
          clear p9
          have qi9 : (0 < (a0.size : Int)) = True := eq_true (of_decide_eq_true (by first | (with_reducible assumption) | assumption))
          replace q9 := eq_true q9
          go_wp2
          go_meet
          case rel => exact ⟨_, (decide ((a0.size : Int) ≥ 9)), (by first | rfl | (simp; done) | (simp [*]; done)), H', ⟨by first | omega | exact Nat.le_refl _⟩, ⟨by (with_reducible repeat (first | refine blk_drewN ?_ _ | refine blk_drew ?_ | refine blk_alloc ?_ _)); exact BK151.out⟩, ⟨by repeat (first | (with_reducible first | exact HB.out | apply below_alloc | apply pw_below_drewN | apply below_drew1 | refine below_set ?_ GE151.out) | exact HB.out)⟩⟩
        · rw [if_neg c10] at H
          have c10b0 : ((bt a0 0) == 2) = false := beq_eq_false_iff_ne.mpr c10
          have c10b1 : ((bt a0 0) != 2) = true := bne_iff_ne.mpr c10
          (first | rw [c10b0] | (simp only [i64_w, i32_w]; rw [c10b0]) | skip)
          have H' := Aside0.mk H
          clear H
          have p9 : 0 ≤ (0 : Int) := (by omega)
          have q9 : 0 < a0.size := (by have : (0 : Int) < (a0.size : Int) := of_decide_eq_true (by first | (with_reducible assumption) | assumption); omega)
          have hx9 : ∀ h : 0 < a0.size, ((a0[0]'h).toNat : Int) = bt a0 0 := bt_at a0 0
          clear p9
          have qi9 : (0 < (a0.size : Int)) = True := eq_true (of_decide_eq_true (by first | (with_reducible assumption) | assumption))
          replace q9 := eq_true q9
          go_wp2
          go_meet
          case rel => exact ⟨_, (false), (by first | rfl | (simp; done) | (simp [*]; done)), H', ⟨by first | omega | exact Nat.le_refl _⟩, ⟨by (with_reducible repeat (first | refine blk_drewN ?_ _ | refine blk_drew ?_ | refine blk_alloc ?_ _)); exact BK151.out⟩, ⟨by repeat (first | (with_reducible first | exact HB.out | apply below_alloc | apply pw_below_drewN | apply below_drew1 | refine below_set ?_ GE151.out) | exact HB.out)⟩⟩
      case rest =>
        clear HC7
        try clear c1
        try clear c2
        try clear c2b0
        try clear c2b1
        try clear p2
        try clear p3
        try clear q3
        try clear hx3
        try clear qi3
        try clear c4
        try clear c4b0
        try clear c4b1
        try clear p9
        try clear q9
        try clear hx9
        try clear qi9
        try clear c10
        try clear c10b0
        try clear c10b1
        try clear hcz6_0
        try clear hcz6_1
        try clear hcz6_2
        try clear hfz6_0
        try clear hfz6_1
        try clear hfz6_2
        try clear p3
        try clear p9
        try clear q3
        try clear q9
        obtain ⟨kq, x19_6, rfl, HA, HJ6, BK151, HB⟩ := hcut
        cases kq with
        | zero => exact absurd HA.out (by simp [lintelref02_first.j0])
        | succ kj6 =>
          have H := HA.out
          clear HA
          simp only [lintelref02_first.j0] at H
          by_cases c11 : x19_6 = true
          · subst c11
            have H1 : (lintelref02_first.l0 kj6 a0 0 1) = some (r1, r2, r3, r4) := by rw [if_pos rfl] at H; exact H
            clear H
            have H := H1
            clear H1
            have H' := Aside0.mk H
            clear H
            go_wp2
            go_loopg [4, 5] kj6 (fun kq v4 v5 w' => ∃ (x4_2 : Int) (x5_2 : Int), v4 = .int .u64 x4_2 ∧ v5 = .int .i64 x5_2 ∧ Aside0 (lintelref02_first.l0 kq a0 x4_2 x5_2 = some (r1, r2, r3, r4)) ∧ Aside0 (kq ≤ kj6) ∧ Aside0 (w'.heap[gb151]? = some (.cells #[.int .i64 0, .int .i64 0, .string (⟨#[]⟩ : ByteArray)] 36 (0, 0))) ∧ Aside0 (Below w.heap.size w w'))
            case atStart => exact ⟨(0), (1), (by first | rfl | (simp; done) | (simp [*]; done)), (by first | rfl | (simp; done) | (simp [*]; done)), H', ⟨Nat.le_refl _⟩, ⟨by (with_reducible repeat (first | refine blk_drewN ?_ _ | refine blk_drew ?_ | refine blk_alloc ?_ _)); exact BK151.out⟩, ⟨by repeat (first | (with_reducible first | exact HB.out | apply below_alloc | apply pw_below_drewN | apply below_drew1 | refine below_set ?_ GE151.out) | exact HB.out)⟩⟩
            case round =>
              clear H'
              try clear c1
              try clear c2
              try clear c2b0
              try clear c2b1
              try clear p2
              try clear p3
              try clear q3
              try clear hx3
              try clear qi3
              try clear c4
              try clear c4b0
              try clear c4b1
              try clear p9
              try clear q9
              try clear hx9
              try clear qi9
              try clear c10
              try clear c10b0
              try clear c10b1
              try clear c11
              try clear hcz6_0
              try clear hcz6_1
              try clear hcz6_2
              try clear hfz6_0
              try clear hfz6_1
              try clear hfz6_2
              try clear p2
              try clear p3
              try clear p9
              try clear q3
              try clear q9
              obtain ⟨x4_2, x5_2, rfl, rfl, HA, HK2, BK151, HB⟩ := hrel
              cases gk with
              | zero => exact absurd HA.out (by simp [lintelref02_first.l0])
              | succ k2 =>
                have H := HA.out
                clear HA
                simp only [lintelref02_first.l0] at H
                by_cases c12 : x5_2 < 9
                · rw [if_pos c12] at H
                  have c12b0 : decide (x5_2 < 9) = true := decide_eq_true c12
                  clear c12
                  by_cases c13 : 0 ≤ x5_2
                  · rw [if_pos c13] at H
                    have c13b0 : decide (0 ≤ x5_2) = true := decide_eq_true c13
                    clear c13
                    by_cases c14 : x5_2 < (a0.size : Int)
                    · rw [if_pos c14] at H
                      have c14b0 : decide (x5_2 < (a0.size : Int)) = true := decide_eq_true c14
                      clear c14
                      have H' := Aside0.mk H
                      clear H
                      have p15 : 0 ≤ (x5_2 : Int) := of_decide_eq_true (by first | (with_reducible assumption) | assumption)
                      have q15 : x5_2 < (a0.size : Int) := of_decide_eq_true (by first | (with_reducible assumption) | assumption)
                      have hx15 := bt_at a0 x5_2
                      replace p15 := eq_true p15
                      replace q15 := eq_true q15
                      go_wp2
                      go_roundg k2
                      case measure => have := HJ6.out; have := HK2.out; omega
                      case rel => exact ⟨(IntKind.u64.wrap ((IntKind.u64.wrap (x4_2 * 256)) + (IntKind.u64.wrap (bt a0 x5_2)))), (wrap64 (x5_2 + 1)), (by first | rfl | (simp; done) | (simp [*]; done)), (by first | rfl | (simp; done) | (simp [*]; done)), H', ⟨by have := HJ6.out; have := HK2.out; omega⟩, ⟨by (with_reducible repeat (first | refine blk_drewN ?_ _ | refine blk_drew ?_ | refine blk_alloc ?_ _)); exact BK151.out⟩, ⟨by repeat (first | (with_reducible first | exact HB.out | apply below_alloc | apply pw_below_drewN | apply below_drew1 | refine below_set ?_ GE151.out) | exact HB.out)⟩⟩
                    · rw [if_neg c14] at H
                      exact absurd H (by simp)
                  · rw [if_neg c13] at H
                    exact absurd H (by simp)
                · rw [if_neg c12] at H
                  have c12b0 : decide (x5_2 < 9) = false := decide_eq_false c12
                  clear c12
                  simp only [Option.some.injEq, Prod.mk.injEq] at H
                  obtain ⟨rfl, rfl, rfl, rfl⟩ := H
                  have hcz16_0 : wr.cell? ⟨gb151, 0, none⟩ = some (.int .i64 0) := (blk_cell BK151.out 0).trans rfl
                  have hcz16_1 : wr.cell? ⟨gb151, 1, none⟩ = some (.int .i64 0) := (blk_cell BK151.out 1).trans rfl
                  have hcz16_2 : wr.cell? ⟨gb151, 2, none⟩ = some (.string (⟨#[]⟩ : ByteArray)) := (blk_cell BK151.out 2).trans rfl
                  have hfz16_0 := blk_frozen BK151.out 0
                  have hfz16_1 := blk_frozen BK151.out 1
                  have hfz16_2 := blk_frozen BK151.out 2
                  go_wp2
                  refine bodyPost_ret (results_ct rfl _ _ gb151 36 #[.int .i64 1, .int .i64 (wrap64 (IntKind.u64.wrap (x4_2 - 9223372036854775808))), .string (⟨#[]⟩ : ByteArray)] (0, 0) _ rfl (by (with_reducible repeat (first | refine blk_drewN ?_ _ | refine blk_drew ?_ | refine blk_alloc ?_ _)); refine blk_put (cs := #[.int .i64 1, .int .i64 (wrap64 (IntKind.u64.wrap (x4_2 - 9223372036854775808))), .string (⟨#[]⟩ : ByteArray)]) ?_ 2 _ rfl; (with_reducible repeat (first | refine blk_drewN ?_ _ | refine blk_drew ?_ | refine blk_alloc ?_ _)); refine blk_put (cs := #[.int .i64 1, .int .i64 0, .string (⟨#[]⟩ : ByteArray)]) ?_ 1 _ rfl; (with_reducible repeat (first | refine blk_drewN ?_ _ | refine blk_drew ?_ | refine blk_alloc ?_ _)); refine blk_put (cs := #[.int .i64 0, .int .i64 0, .string (⟨#[]⟩ : ByteArray)]) ?_ 0 _ rfl; (with_reducible repeat (first | refine blk_drewN ?_ _ | refine blk_drew ?_ | refine blk_alloc ?_ _)); exact BK151.out) Try.underlying36 rfl (by kernel_rfl)) rfl ?_
                  exact ⟨by first | rfl | (simp [errW_none, errW_some] <;> rfl) | (simp [*, errW_none, errW_some] <;> rfl), by repeat (first | (with_reducible first | exact HB.out | apply below_alloc | apply pw_below_drewN | apply below_drew1 | refine below_set ?_ GE151.out) | exact HB.out)⟩
          · replace c11 := Bool.eq_false_iff.mpr c11
            subst c11
            have H1 : (if 0 < (a0.size : Int) then (if (bt a0 0) = 3 then (lintelref02_first.l1 kj6 a0 ([] : List Int) 1) else (some (0, 0, (⟨#[]⟩ : ByteArray), 0))) else (none)) = some (r1, r2, r3, r4) := by rw [if_neg (show ¬ (false = true) by decide)] at H; exact H
            clear H
            have H := H1
            clear H1
            by_cases c17 : 0 < (a0.size : Int)
            · rw [if_pos c17] at H
              have c17b0 : decide (0 < (a0.size : Int)) = true := decide_eq_true c17
              have c17b1 : decide (0 < a0.size) = true := decide_eq_true (by omega)
              clear c17
              by_cases c19 : (bt a0 0) = 3
              · rw [if_pos c19] at H
                have c19b0 : ((bt a0 0) == 3) = true := beq_iff_eq.mpr c19
                have c19b1 : ((bt a0 0) != 3) = false := bne_eq_false_iff_eq.mpr c19
                clear c19
                have H' := Aside0.mk H
                clear H
                have p18 : 0 ≤ (0 : Int) := (by omega)
                have q18 : 0 < a0.size := (by have : (0 : Int) < (a0.size : Int) := of_decide_eq_true (by first | (with_reducible assumption) | assumption); omega)
                have hx18 : ∀ h : 0 < a0.size, ((a0[0]'h).toNat : Int) = bt a0 0 := bt_at a0 0
                clear p18
                have qi18 : (0 < (a0.size : Int)) = True := eq_true (of_decide_eq_true (by first | (with_reducible assumption) | assumption))
                replace q18 := eq_true q18
                go_wp2
                go_loopg [6, 7] kj6 (fun kq v6 v7 w' => ∃ (x6_2 : List Int) (x7_2 : Int) (x152000_2 : Int) (x152001_2 : Int) (x152002_2 : ByteArray), v7 = .int .i64 x7_2 ∧ Aside0 (lintelref02_first.l1 kq a0 x6_2 x7_2 = some (r1, r2, r3, r4)) ∧ Aside0 (kq ≤ kj6) ∧ Aside0 (Kd.R (Kd.int .u8) 5 w' w.heap.size (fun _ => True) v6 x6_2) ∧ Aside0 (w'.heap[gb151]? = some (.cells #[.int .i64 x152000_2, .int .i64 x152001_2, .string x152002_2] 36 (0, 0))) ∧ Aside0 (Below w.heap.size w w'))
                case atStart => exact ⟨(([] : List Int)), (1), (0), (0), ((⟨#[]⟩ : ByteArray)), (by first | rfl | (simp; done) | (simp [*]; done)), H', ⟨Nat.le_refl _⟩, ⟨by first | exact Kd.R_nil _ _ _ _ _ | exact Kd.N_nil _ _ _ _ _ | exact Kd.V_nil _ _ _ _ _ | exact Kd.Q_nil _ _ _ _ _ | exact Kd.S_nil _ _ _ _ _⟩, ⟨by (with_reducible repeat (first | refine blk_drewN ?_ _ | refine blk_drew ?_ | refine blk_alloc ?_ _)); exact BK151.out⟩, ⟨by repeat (first | (with_reducible first | exact HB.out | apply below_alloc | apply pw_below_drewN | apply below_drew1 | refine below_set ?_ GE151.out) | exact HB.out)⟩⟩
                case round =>
                  clear H'
                  try clear c1
                  try clear p1
                  try clear q1
                  try clear hx1
                  try clear qi1
                  try clear c2
                  try clear c2b0
                  try clear c2b1
                  try clear p2
                  try clear p3
                  try clear q3
                  try clear hx3
                  try clear qi3
                  try clear c4
                  try clear c4b0
                  try clear c4b1
                  try clear p6
                  try clear p9
                  try clear q9
                  try clear hx9
                  try clear qi9
                  try clear c10
                  try clear c10b0
                  try clear c10b1
                  try clear c11
                  try clear c12
                  try clear c12b0
                  try clear c13
                  try clear c13b0
                  try clear c14
                  try clear c14b0
                  try clear p15
                  try clear q15
                  try clear hx15
                  try clear c17
                  try clear c17b0
                  try clear c17b1
                  try clear p18
                  try clear q18
                  try clear hx18
                  try clear qi18
                  try clear c19
                  try clear c19b0
                  try clear c19b1
                  try clear hcz16_0
                  try clear hcz16_1
                  try clear hcz16_2
                  try clear hcz6_0
                  try clear hcz6_1
                  try clear hcz6_2
                  try clear hfz16_0
                  try clear hfz16_1
                  try clear hfz16_2
                  try clear hfz6_0
                  try clear hfz6_1
                  try clear hfz6_2
                  try clear p15
                  try clear p18
                  try clear p2
                  try clear p3
                  try clear p9
                  try clear q15
                  try clear q18
                  try clear q3
                  try clear q9
                  obtain ⟨x6_2, x7_2, x152000_2, x152001_2, x152002_2, rfl, HA, HK2, HO_6, BK151, HB⟩ := hrel
                  cases gk with
                  | zero => exact absurd HA.out (by simp [lintelref02_first.l1])
                  | succ k2 =>
                    have H := HA.out
                    clear HA
                    simp only [lintelref02_first.l1] at H
                    by_cases c20 : (wrap64 (x7_2 + 1)) < (a0.size : Int)
                    · rw [if_pos c20] at H
                      have c20b0 : decide ((wrap64 (x7_2 + 1)) < (a0.size : Int)) = true := decide_eq_true c20
                      clear c20
                      have HC21 := Aside0.mk H
                      clear H
                      go_upto_region 16 with (fail)
                      go_cut [56] (fun v56 wc => ∃ (kq : Nat) (x56_20 : Bool), v56 = .bool x56_20 ∧ Aside0 (lintelref02_first.j3 kq a0 x6_2 x7_2 x56_20 = some (r1, r2, r3, r4)) ∧ Aside0 (kq ≤ k2) ∧ Aside0 (Kd.R (Kd.int .u8) 5 wc w.heap.size (fun _ => True) u6 x6_2) ∧ Aside0 (wc.heap[gb151]? = some (.cells #[.int .i64 x152000_2, .int .i64 x152001_2, .string x152002_2] 36 (0, 0))) ∧ Aside0 (Below w.heap.size w wc))
                      case first =>
                        have H := HC21.out
                        clear HC21
                        by_cases c22 : 0 ≤ x7_2
                        · rw [if_pos c22] at H
                          have c22b0 : decide (0 ≤ x7_2) = true := decide_eq_true c22
                          clear c22
                          (first | rw [c22b0] | (simp only [i64_w, i32_w]; rw [c22b0]) | skip)
                          by_cases c23 : x7_2 < (a0.size : Int)
                          · rw [if_pos c23] at H
                            have c23b0 : decide (x7_2 < (a0.size : Int)) = true := decide_eq_true c23
                            clear c23
                            by_cases c25 : (bt a0 x7_2) = 0
                            · rw [if_pos c25] at H
                              have c25b0 : ((bt a0 x7_2) == 0) = true := beq_iff_eq.mpr c25
                              have c25b1 : ((bt a0 x7_2) != 0) = false := bne_eq_false_iff_eq.mpr c25
                              clear c25
                              obtain ⟨ji26, hji26⟩ : ∃ j_ : Int, (wrap64 (x7_2 + 1)) = j_ := ⟨_, rfl⟩
                              replace H : (if 0 ≤ (ji26) then (lintelref02_first.j3 k2 a0 x6_2 x7_2 ((bt a0 (ji26)) == 1)) else (none)) = some (r1, r2, r3, r4) := by first | (rw [hji26] at H; exact H) | (simp only [hji26] at H ⊢; exact H)
                              (try rw [hji26] at c20b0)
                              have hji26w : (IntKind.i64.wrap (x7_2 + 1)) = ji26 := (i64_w _).trans hji26
                              by_cases c27 : 0 ≤ (ji26)
                              · rw [if_pos c27] at H
                                have c27b0 : decide (0 ≤ (ji26)) = true := decide_eq_true c27
                                clear c27
                                have H' := Aside0.mk H
                                clear H
                                have p24 : 0 ≤ (x7_2 : Int) := of_decide_eq_true (by first | (with_reducible assumption) | assumption)
                                have q24 : x7_2 < (a0.size : Int) := of_decide_eq_true (by first | (with_reducible assumption) | assumption)
                                have hx24 := bt_at a0 x7_2
                                replace p24 := eq_true p24
                                replace q24 := eq_true q24
                                have p28 : 0 ≤ ((ji26) : Int) := of_decide_eq_true (by first | (with_reducible assumption) | assumption)
                                have q28 : (ji26) < (a0.size : Int) := of_decide_eq_true (by first | (with_reducible assumption) | assumption)
                                have hx28 := bt_at a0 (ji26)
                                replace p28 := eq_true p28
                                replace q28 := eq_true q28
                                go_wp2
                                go_meet
                                case rel => exact ⟨_, (((bt a0 (ji26)) == 1)), (by first | rfl | (simp; done) | (simp only [← hji26] <;> (first | rfl | simp)) | (simp [*]; done)), H', ⟨by have := HJ6.out; have := HK2.out; first | omega | exact Nat.le_refl _⟩, ⟨by (with_reducible repeat (first | apply Kd.R_alloc | apply Kd.R_drewN | apply Kd.R_drew)); exact HO_6.out⟩, ⟨by (with_reducible repeat (first | refine blk_drewN ?_ _ | refine blk_drew ?_ | refine blk_alloc ?_ _)); exact BK151.out⟩, ⟨by repeat (first | (with_reducible first | exact HB.out | apply below_alloc | apply pw_below_drewN | apply below_drew1 | refine below_set ?_ GE151.out) | exact HB.out)⟩⟩
                              · rw [if_neg c27] at H
                                exact absurd H (by simp)
                            · rw [if_neg c25] at H
                              have c25b0 : ((bt a0 x7_2) == 0) = false := beq_eq_false_iff_ne.mpr c25
                              have c25b1 : ((bt a0 x7_2) != 0) = true := bne_iff_ne.mpr c25
                              have H' := Aside0.mk H
                              clear H
                              have p24 : 0 ≤ (x7_2 : Int) := of_decide_eq_true (by first | (with_reducible assumption) | assumption)
                              have q24 : x7_2 < (a0.size : Int) := of_decide_eq_true (by first | (with_reducible assumption) | assumption)
                              have hx24 := bt_at a0 x7_2
                              replace p24 := eq_true p24
                              replace q24 := eq_true q24
                              go_wp2
                              go_meet
                              case rel => exact ⟨_, (false), (by first | rfl | (simp; done) | (simp [*]; done)), H', ⟨by have := HJ6.out; have := HK2.out; first | omega | exact Nat.le_refl _⟩, ⟨by (with_reducible repeat (first | apply Kd.R_alloc | apply Kd.R_drewN | apply Kd.R_drew)); exact HO_6.out⟩, ⟨by (with_reducible repeat (first | refine blk_drewN ?_ _ | refine blk_drew ?_ | refine blk_alloc ?_ _)); exact BK151.out⟩, ⟨by repeat (first | (with_reducible first | exact HB.out | apply below_alloc | apply pw_below_drewN | apply below_drew1 | refine below_set ?_ GE151.out) | exact HB.out)⟩⟩
                          · rw [if_neg c23] at H
                            exact absurd H (by simp)
                        · rw [if_neg c22] at H
                          exact absurd H (by simp)
                      case rest =>
                        clear HC21
                        try clear c1
                        try clear p1
                        try clear q1
                        try clear hx1
                        try clear qi1
                        try clear c2
                        try clear c2b0
                        try clear c2b1
                        try clear p2
                        try clear q2
                        try clear hx2
                        try clear p3
                        try clear q3
                        try clear hx3
                        try clear qi3
                        try clear c4
                        try clear c4b0
                        try clear c4b1
                        try clear p6
                        try clear p9
                        try clear q9
                        try clear hx9
                        try clear qi9
                        try clear c10
                        try clear c10b0
                        try clear c10b1
                        try clear c11
                        try clear c12
                        try clear c12b0
                        try clear c13
                        try clear c13b0
                        try clear c14
                        try clear c14b0
                        try clear p15
                        try clear q15
                        try clear hx15
                        try clear c17
                        try clear c17b0
                        try clear c17b1
                        try clear p18
                        try clear q18
                        try clear hx18
                        try clear qi18
                        try clear c19
                        try clear c19b0
                        try clear c19b1
                        try clear c20
                        try clear c20b0
                        try clear c22
                        try clear c22b0
                        try clear c23
                        try clear c23b0
                        try clear p24
                        try clear q24
                        try clear hx24
                        try clear c25
                        try clear c25b0
                        try clear c25b1
                        try clear c27
                        try clear c27b0
                        try clear p28
                        try clear q28
                        try clear hx28
                        try clear hcz16_0
                        try clear hcz16_1
                        try clear hcz16_2
                        try clear hcz6_0
                        try clear hcz6_1
                        try clear hcz6_2
                        try clear hfz16_0
                        try clear hfz16_1
                        try clear hfz16_2
                        try clear hfz6_0
                        try clear hfz6_1
                        try clear hfz6_2
                        try clear p1
                        try clear p15
                        try clear p18
                        try clear p2
                        try clear p24
                        try clear p28
                        try clear p3
                        try clear p6
                        try clear p9
                        try clear q1
                        try clear q15
                        try clear q18
                        try clear q24
                        try clear q28
                        try clear q3
                        try clear q9
                        obtain ⟨kq, x56_20, rfl, HA, HJ20, HO_6, BK151, HB⟩ := hcut
                        cases kq with
                        | zero => exact absurd HA.out (by simp [lintelref02_first.j3])
                        | succ kj20 =>
                          have H := HA.out
                          clear HA
                          simp only [lintelref02_first.j3] at H
                          by_cases c29 : x56_20 = true
                          · subst c29
                            have H1 : (some (2, 0, strOfNums x6_2, wrap64 (x7_2 + 2))) = some (r1, r2, r3, r4) := by rw [if_pos rfl] at H; exact H
                            clear H
                            have H := H1
                            clear H1
                            simp only [Option.some.injEq, Prod.mk.injEq] at H
                            obtain ⟨rfl, rfl, rfl, rfl⟩ := H
                            have hcv30 := own_string (P := Try.prog) Try.underlying76 Try.underlying5 Try.underlying9 (Kd.own_of_R HO_6.out)
                            have hcz31_0 : wc.cell? ⟨gb151, 0, none⟩ = some (.int .i64 x152000_2) := (blk_cell BK151.out 0).trans rfl
                            have hcz31_1 : wc.cell? ⟨gb151, 1, none⟩ = some (.int .i64 x152001_2) := (blk_cell BK151.out 1).trans rfl
                            have hcz31_2 : wc.cell? ⟨gb151, 2, none⟩ = some (.string x152002_2) := (blk_cell BK151.out 2).trans rfl
                            have hfz31_0 := blk_frozen BK151.out 0
                            have hfz31_1 := blk_frozen BK151.out 1
                            have hfz31_2 := blk_frozen BK151.out 2
                            go_wp2
                            refine bodyPost_ret (results_ct rfl _ _ gb151 36 #[.int .i64 2, .int .i64 0, .string (strOfNums x6_2)] (0, 0) _ rfl (by (with_reducible repeat (first | refine blk_drewN ?_ _ | refine blk_drew ?_ | refine blk_alloc ?_ _)); refine blk_put (cs := #[.int .i64 2, .int .i64 0, .string x152002_2]) ?_ 2 _ rfl; (with_reducible repeat (first | refine blk_drewN ?_ _ | refine blk_drew ?_ | refine blk_alloc ?_ _)); refine blk_put (cs := #[.int .i64 2, .int .i64 x152001_2, .string x152002_2]) ?_ 1 _ rfl; (with_reducible repeat (first | refine blk_drewN ?_ _ | refine blk_drew ?_ | refine blk_alloc ?_ _)); refine blk_put (cs := #[.int .i64 x152000_2, .int .i64 x152001_2, .string x152002_2]) ?_ 0 _ rfl; (with_reducible repeat (first | refine blk_drewN ?_ _ | refine blk_drew ?_ | refine blk_alloc ?_ _)); exact BK151.out) Try.underlying36 rfl (by kernel_rfl)) rfl ?_
                            exact ⟨by first | rfl | (simp [errW_none, errW_some] <;> rfl) | (simp [*, errW_none, errW_some] <;> rfl), by repeat (first | (with_reducible first | exact HB.out | apply below_alloc | apply pw_below_drewN | apply below_drew1 | refine below_set ?_ GE151.out) | exact HB.out)⟩
                          · replace c29 := Bool.eq_false_iff.mpr c29
                            subst c29
                            have H1 : (if 0 ≤ x7_2 then (if x7_2 < (a0.size : Int) then (if x6_2.length < 140737488355328 then ((some (x6_2 ++ [bt a0 x7_2] : List Int)).bind fun y152 => (if (bt a0 x7_2) = 0 then (if 0 ≤ (wrap64 (x7_2 + 1)) then (if (wrap64 (x7_2 + 1)) < (a0.size : Int) then (if (bt a0 (wrap64 (x7_2 + 1))) = 255 then (lintelref02_first.l1 kj20 a0 y152 (wrap64 ((wrap64 (x7_2 + 1)) + 1))) else (some (0, 0, (⟨#[]⟩ : ByteArray), 0))) else (none)) else (none)) else (lintelref02_first.l1 kj20 a0 y152 (wrap64 (x7_2 + 1))))) else (none)) else (none)) else (none)) = some (r1, r2, r3, r4) := by rw [if_neg (show ¬ (false = true) by decide)] at H; exact H
                            clear H
                            have H := H1
                            clear H1
                            by_cases c32 : 0 ≤ x7_2
                            · rw [if_pos c32] at H
                              have c32b0 : decide (0 ≤ x7_2) = true := decide_eq_true c32
                              clear c32
                              by_cases c33 : x7_2 < (a0.size : Int)
                              · rw [if_pos c33] at H
                                have c33b0 : decide (x7_2 < (a0.size : Int)) = true := decide_eq_true c33
                                clear c33
                                by_cases c35 : x6_2.length < 140737488355328
                                · rw [if_pos c35] at H
                                  have LMc35 := Aside0.mk c35
                                  clear c35
                                  obtain ⟨y152, hy152⟩ : ∃ y_ : List Int, y_ = (x6_2 ++ [bt a0 x7_2]) := ⟨_, rfl⟩
                                  replace H : (if (bt a0 x7_2) = 0 then (if 0 ≤ (wrap64 (x7_2 + 1)) then (if (wrap64 (x7_2 + 1)) < (a0.size : Int) then (if (bt a0 (wrap64 (x7_2 + 1))) = 255 then (lintelref02_first.l1 kj20 a0 y152 (wrap64 ((wrap64 (x7_2 + 1)) + 1))) else (some (0, 0, (⟨#[]⟩ : ByteArray), 0))) else (none)) else (none)) else (lintelref02_first.l1 kj20 a0 y152 (wrap64 (x7_2 + 1)))) = some (r1, r2, r3, r4) := by first | (rw [hy152]; with_reducible exact H) | (have H2_ := (Option.bind_some _ _).symm.trans H; rw [hy152]; with_reducible exact H2_) | (have H2_ := (Option.bind_some _ _).symm.trans H; with_reducible exact H2_) | with_reducible exact H | (rw [hy152]; exact H) | exact H
                                  have Ny152 := Aside0.mk hy152
                                  clear hy152
                                  by_cases c37 : (bt a0 x7_2) = 0
                                  · rw [if_pos c37] at H
                                    have c37b0 : ((bt a0 x7_2) == 0) = true := beq_iff_eq.mpr c37
                                    have c37b1 : ((bt a0 x7_2) != 0) = false := bne_eq_false_iff_eq.mpr c37
                                    clear c37
                                    obtain ⟨ji38, hji38⟩ : ∃ j_ : Int, (wrap64 (x7_2 + 1)) = j_ := ⟨_, rfl⟩
                                    replace H : (if 0 ≤ (ji38) then (if (ji38) < (a0.size : Int) then (if (bt a0 (ji38)) = 255 then (lintelref02_first.l1 kj20 a0 y152 (wrap64 ((ji38) + 1))) else (some (0, 0, (⟨#[]⟩ : ByteArray), 0))) else (none)) else (none)) = some (r1, r2, r3, r4) := by first | (rw [hji38] at H; exact H) | (simp only [hji38] at H ⊢; exact H)
                                    (try rw [hji38] at c20b0)
                                    have hji38w : (IntKind.i64.wrap (x7_2 + 1)) = ji38 := (i64_w _).trans hji38
                                    by_cases c39 : 0 ≤ (ji38)
                                    · rw [if_pos c39] at H
                                      have c39b0 : decide (0 ≤ (ji38)) = true := decide_eq_true c39
                                      clear c39
                                      by_cases c40 : (ji38) < (a0.size : Int)
                                      · rw [if_pos c40] at H
                                        have c40b0 : decide ((ji38) < (a0.size : Int)) = true := decide_eq_true c40
                                        clear c40
                                        by_cases c42 : (bt a0 (ji38)) = 255
                                        · rw [if_pos c42] at H
                                          have c42b0 : ((bt a0 (ji38)) == 255) = true := beq_iff_eq.mpr c42
                                          have c42b1 : ((bt a0 (ji38)) != 255) = false := bne_eq_false_iff_eq.mpr c42
                                          clear c42
                                          have H' := Aside0.mk H
                                          clear H
                                          have p34 : 0 ≤ (x7_2 : Int) := of_decide_eq_true (by first | (with_reducible assumption) | assumption)
                                          have q34 : x7_2 < (a0.size : Int) := of_decide_eq_true (by first | (with_reducible assumption) | assumption)
                                          have hx34 := bt_at a0 x7_2
                                          replace p34 := eq_true p34
                                          replace q34 := eq_true q34
                                          go_wp2_with (first | ((with_reducible refine gate_builtin (b := .append) (xs := #[.tmp 62, .tmp 66]) rfl ?_); (try (refine gate_guard (by rfl) ?_; dsimp only)); at_builtin; refine Kd.R_append (Kd.int .u8) (w0 := w) w.heap.size rfl (.tmp 62) (.tmp 66) 76 5 (.int .u8 0) 1 rfl Try.underlying76 info5 rfl (by decide) (by omega) u6 x6_2 (bt a0 x7_2) [.int .u8 (bt a0 x7_2)] (fun _ => True) (fun _ => False) rfl rfl ?aP (fun _ hk => hk.elim) ?aF ?aO ?aB ?aS ?aL ?_; (case aP => exact rfl); (case aB => exact (by repeat (first | (with_reducible first | exact HB.out | apply below_alloc | apply pw_below_drewN | apply below_drew1 | refine below_set ?_ GE151.out) | exact HB.out))); (case aF => exact (fun _ _ => trivial)); (case aO => exact (by (with_reducible repeat (first | apply Kd.R_alloc | apply Kd.R_drewN | apply Kd.R_drew)); exact HO_6.out)); (case aS => exact (below_size (by repeat (first | (with_reducible first | exact HB.out | apply below_alloc | apply pw_below_drewN | apply below_drew1 | refine below_set ?_ GE151.out) | exact HB.out)))); (case aL => have := LMc35.out; omega); intro v153 w43 ho hb hg hat; rw [← Ny152.out] at ho; have n0_ := Aside0.mk (blk_grown (g := gb151) (o := .cells #[.int .i64 x152000_2, .int .i64 x152001_2, .string x152002_2] 36 (0, 0)) (by (with_reducible repeat (first | refine blk_drewN ?_ _ | refine blk_drew ?_ | refine blk_alloc ?_ _)); exact BK151.out) hg (Kd.R_ne HO_6.out BK151.out (by decide))); have n1_ := Aside0.mk (hb); have n2_ := Aside0.mk (ho); clear BK151; clear HB; clear HO_6; have BK151 := n0_; have HB := n1_; have HO154 := n2_; clear n0_ n1_ n2_; clear ho hb hg hat; have p36 : 0 ≤ (x7_2 : Int) := of_decide_eq_true (by first | (with_reducible assumption) | assumption); have q36 : x7_2 < (a0.size : Int) := of_decide_eq_true (by first | (with_reducible assumption) | assumption); have hx36 := bt_at a0 x7_2; replace p36 := eq_true p36; replace q36 := eq_true q36; have p41 : 0 ≤ ((ji38) : Int) := of_decide_eq_true (by first | (with_reducible assumption) | assumption); have q41 : (ji38) < (a0.size : Int) := of_decide_eq_true (by first | (with_reducible assumption) | assumption); have hx41 := bt_at a0 (ji38); replace p41 := eq_true p41; replace q41 := eq_true q41))
                                          go_roundg kj20
                                          case measure => have := HJ6.out; have := HK2.out; have := HJ20.out; omega
                                          case rel => exact ⟨(y152), (wrap64 ((ji38) + 1)), (x152000_2), (x152001_2), (x152002_2), (by first | rfl | (simp; done) | (simp only [← hji38] <;> (first | rfl | simp)) | (simp [*]; done)), H', ⟨by have := HJ6.out; have := HK2.out; have := HJ20.out; omega⟩, ⟨by (with_reducible repeat (first | apply Kd.R_alloc | apply Kd.R_drewN | apply Kd.R_drew)); exact HO154.out⟩, ⟨by (with_reducible repeat (first | refine blk_drewN ?_ _ | refine blk_drew ?_ | refine blk_alloc ?_ _)); exact BK151.out⟩, ⟨by repeat (first | (with_reducible first | exact HB.out | apply below_alloc | apply pw_below_drewN | apply below_drew1 | refine below_set ?_ GE151.out) | exact HB.out)⟩⟩
                                        · rw [if_neg c42] at H
                                          have c42b0 : ((bt a0 (ji38)) == 255) = false := beq_eq_false_iff_ne.mpr c42
                                          have c42b1 : ((bt a0 (ji38)) != 255) = true := bne_iff_ne.mpr c42
                                          simp only [Option.some.injEq, Prod.mk.injEq] at H
                                          obtain ⟨rfl, rfl, rfl, rfl⟩ := H
                                          have p34 : 0 ≤ (x7_2 : Int) := of_decide_eq_true (by first | (with_reducible assumption) | assumption)
                                          have q34 : x7_2 < (a0.size : Int) := of_decide_eq_true (by first | (with_reducible assumption) | assumption)
                                          have hx34 := bt_at a0 x7_2
                                          replace p34 := eq_true p34
                                          replace q34 := eq_true q34
                                          go_wp2_with (first | ((with_reducible refine gate_builtin (b := .append) (xs := #[.tmp 62, .tmp 66]) rfl ?_); (try (refine gate_guard (by rfl) ?_; dsimp only)); at_builtin; refine Kd.R_append (Kd.int .u8) (w0 := w) w.heap.size rfl (.tmp 62) (.tmp 66) 76 5 (.int .u8 0) 1 rfl Try.underlying76 info5 rfl (by decide) (by omega) u6 x6_2 (bt a0 x7_2) [.int .u8 (bt a0 x7_2)] (fun _ => True) (fun _ => False) rfl rfl ?aP (fun _ hk => hk.elim) ?aF ?aO ?aB ?aS ?aL ?_; (case aP => exact rfl); (case aB => exact (by repeat (first | (with_reducible first | exact HB.out | apply below_alloc | apply pw_below_drewN | apply below_drew1 | refine below_set ?_ GE151.out) | exact HB.out))); (case aF => exact (fun _ _ => trivial)); (case aO => exact (by (with_reducible repeat (first | apply Kd.R_alloc | apply Kd.R_drewN | apply Kd.R_drew)); exact HO_6.out)); (case aS => exact (below_size (by repeat (first | (with_reducible first | exact HB.out | apply below_alloc | apply pw_below_drewN | apply below_drew1 | refine below_set ?_ GE151.out) | exact HB.out)))); (case aL => have := LMc35.out; omega); intro v153 w44 ho hb hg hat; rw [← Ny152.out] at ho; have n0_ := Aside0.mk (blk_grown (g := gb151) (o := .cells #[.int .i64 x152000_2, .int .i64 x152001_2, .string x152002_2] 36 (0, 0)) (by (with_reducible repeat (first | refine blk_drewN ?_ _ | refine blk_drew ?_ | refine blk_alloc ?_ _)); exact BK151.out) hg (Kd.R_ne HO_6.out BK151.out (by decide))); have n1_ := Aside0.mk (hb); have n2_ := Aside0.mk (ho); clear BK151; clear HB; clear HO_6; have BK151 := n0_; have HB := n1_; have HO154 := n2_; clear n0_ n1_ n2_; clear ho hb hg hat; have p36 : 0 ≤ (x7_2 : Int) := of_decide_eq_true (by first | (with_reducible assumption) | assumption); have q36 : x7_2 < (a0.size : Int) := of_decide_eq_true (by first | (with_reducible assumption) | assumption); have hx36 := bt_at a0 x7_2; replace p36 := eq_true p36; replace q36 := eq_true q36; have p41 : 0 ≤ ((ji38) : Int) := of_decide_eq_true (by first | (with_reducible assumption) | assumption); have q41 : (ji38) < (a0.size : Int) := of_decide_eq_true (by first | (with_reducible assumption) | assumption); have hx41 := bt_at a0 (ji38); replace p41 := eq_true p41; replace q41 := eq_true q41; have hcz45_0 : w44.cell? ⟨gb151, 0, none⟩ = some (.int .i64 x152000_2) := (blk_cell BK151.out 0).trans rfl; have hcz45_1 : w44.cell? ⟨gb151, 1, none⟩ = some (.int .i64 x152001_2) := (blk_cell BK151.out 1).trans rfl; have hcz45_2 : w44.cell? ⟨gb151, 2, none⟩ = some (.string x152002_2) := (blk_cell BK151.out 2).trans rfl; have hfz45_0 := blk_frozen BK151.out 0; have hfz45_1 := blk_frozen BK151.out 1; have hfz45_2 := blk_frozen BK151.out 2))
                                          refine bodyPost_ret (results_ct rfl _ _ gb151 36 #[.int .i64 0, .int .i64 0, .string (⟨#[]⟩ : ByteArray)] (0, 0) _ rfl (by (with_reducible repeat (first | refine blk_drewN ?_ _ | refine blk_drew ?_ | refine blk_alloc ?_ _)); refine blk_put (cs := #[.int .i64 0, .int .i64 0, .string x152002_2]) ?_ 2 _ rfl; (with_reducible repeat (first | refine blk_drewN ?_ _ | refine blk_drew ?_ | refine blk_alloc ?_ _)); refine blk_put (cs := #[.int .i64 0, .int .i64 x152001_2, .string x152002_2]) ?_ 1 _ rfl; (with_reducible repeat (first | refine blk_drewN ?_ _ | refine blk_drew ?_ | refine blk_alloc ?_ _)); refine blk_put (cs := #[.int .i64 x152000_2, .int .i64 x152001_2, .string x152002_2]) ?_ 0 _ rfl; (with_reducible repeat (first | refine blk_drewN ?_ _ | refine blk_drew ?_ | refine blk_alloc ?_ _)); exact BK151.out) Try.underlying36 rfl (by kernel_rfl)) rfl ?_
                                          exact ⟨by first | rfl | (simp [errW_none, errW_some] <;> rfl) | (simp only [← hji38]; first | rfl | (simp [errW_none, errW_some] <;> rfl)) | (simp [*, errW_none, errW_some] <;> rfl), by repeat (first | (with_reducible first | exact HB.out | apply below_alloc | apply pw_below_drewN | apply below_drew1 | refine below_set ?_ GE151.out) | exact HB.out)⟩
                                      · rw [if_neg c40] at H
                                        exact absurd H (by simp)
                                    · rw [if_neg c39] at H
                                      exact absurd H (by simp)
                                  · rw [if_neg c37] at H
                                    have c37b0 : ((bt a0 x7_2) == 0) = false := beq_eq_false_iff_ne.mpr c37
                                    have c37b1 : ((bt a0 x7_2) != 0) = true := bne_iff_ne.mpr c37
                                    have H' := Aside0.mk H
                                    clear H
                                    have p34 : 0 ≤ (x7_2 : Int) := of_decide_eq_true (by first | (with_reducible assumption) | assumption)
                                    have q34 : x7_2 < (a0.size : Int) := of_decide_eq_true (by first | (with_reducible assumption) | assumption)
                                    have hx34 := bt_at a0 x7_2
                                    replace p34 := eq_true p34
                                    replace q34 := eq_true q34
                                    go_wp2_with (first | ((with_reducible refine gate_builtin (b := .append) (xs := #[.tmp 62, .tmp 66]) rfl ?_); (try (refine gate_guard (by rfl) ?_; dsimp only)); at_builtin; refine Kd.R_append (Kd.int .u8) (w0 := w) w.heap.size rfl (.tmp 62) (.tmp 66) 76 5 (.int .u8 0) 1 rfl Try.underlying76 info5 rfl (by decide) (by omega) u6 x6_2 (bt a0 x7_2) [.int .u8 (bt a0 x7_2)] (fun _ => True) (fun _ => False) rfl rfl ?aP (fun _ hk => hk.elim) ?aF ?aO ?aB ?aS ?aL ?_; (case aP => exact rfl); (case aB => exact (by repeat (first | (with_reducible first | exact HB.out | apply below_alloc | apply pw_below_drewN | apply below_drew1 | refine below_set ?_ GE151.out) | exact HB.out))); (case aF => exact (fun _ _ => trivial)); (case aO => exact (by (with_reducible repeat (first | apply Kd.R_alloc | apply Kd.R_drewN | apply Kd.R_drew)); exact HO_6.out)); (case aS => exact (below_size (by repeat (first | (with_reducible first | exact HB.out | apply below_alloc | apply pw_below_drewN | apply below_drew1 | refine below_set ?_ GE151.out) | exact HB.out)))); (case aL => have := LMc35.out; omega); intro v153 w46 ho hb hg hat; rw [← Ny152.out] at ho; have n0_ := Aside0.mk (blk_grown (g := gb151) (o := .cells #[.int .i64 x152000_2, .int .i64 x152001_2, .string x152002_2] 36 (0, 0)) (by (with_reducible repeat (first | refine blk_drewN ?_ _ | refine blk_drew ?_ | refine blk_alloc ?_ _)); exact BK151.out) hg (Kd.R_ne HO_6.out BK151.out (by decide))); have n1_ := Aside0.mk (hb); have n2_ := Aside0.mk (ho); clear BK151; clear HB; clear HO_6; have BK151 := n0_; have HB := n1_; have HO154 := n2_; clear n0_ n1_ n2_; clear ho hb hg hat; have p36 : 0 ≤ (x7_2 : Int) := of_decide_eq_true (by first | (with_reducible assumption) | assumption); have q36 : x7_2 < (a0.size : Int) := of_decide_eq_true (by first | (with_reducible assumption) | assumption); have hx36 := bt_at a0 x7_2; replace p36 := eq_true p36; replace q36 := eq_true q36))
                                    go_roundg kj20
                                    case measure => have := HJ6.out; have := HK2.out; have := HJ20.out; omega
                                    case rel => exact ⟨(y152), (wrap64 (x7_2 + 1)), (x152000_2), (x152001_2), (x152002_2), (by first | rfl | (simp; done) | (simp [*]; done)), H', ⟨by have := HJ6.out; have := HK2.out; have := HJ20.out; omega⟩, ⟨by (with_reducible repeat (first | apply Kd.R_alloc | apply Kd.R_drewN | apply Kd.R_drew)); exact HO154.out⟩, ⟨by (with_reducible repeat (first | refine blk_drewN ?_ _ | refine blk_drew ?_ | refine blk_alloc ?_ _)); exact BK151.out⟩, ⟨by repeat (first | (with_reducible first | exact HB.out | apply below_alloc | apply pw_below_drewN | apply below_drew1 | refine below_set ?_ GE151.out) | exact HB.out)⟩⟩
                                · rw [if_neg c35] at H
                                  exact absurd H (by simp)
                              · rw [if_neg c33] at H
                                exact absurd H (by simp)
                            · rw [if_neg c32] at H
                              exact absurd H (by simp)
                    · rw [if_neg c20] at H
                      have c20b0 : decide ((wrap64 (x7_2 + 1)) < (a0.size : Int)) = false := decide_eq_false c20
                      clear c20
                      simp only [Option.some.injEq, Prod.mk.injEq] at H
                      obtain ⟨rfl, rfl, rfl, rfl⟩ := H
                      have hcz47_0 : wr.cell? ⟨gb151, 0, none⟩ = some (.int .i64 x152000_2) := (blk_cell BK151.out 0).trans rfl
                      have hcz47_1 : wr.cell? ⟨gb151, 1, none⟩ = some (.int .i64 x152001_2) := (blk_cell BK151.out 1).trans rfl
                      have hcz47_2 : wr.cell? ⟨gb151, 2, none⟩ = some (.string x152002_2) := (blk_cell BK151.out 2).trans rfl
                      have hfz47_0 := blk_frozen BK151.out 0
                      have hfz47_1 := blk_frozen BK151.out 1
                      have hfz47_2 := blk_frozen BK151.out 2
                      go_wp2
                      refine bodyPost_ret (results_ct rfl _ _ gb151 36 #[.int .i64 0, .int .i64 0, .string (⟨#[]⟩ : ByteArray)] (0, 0) _ rfl (by (with_reducible repeat (first | refine blk_drewN ?_ _ | refine blk_drew ?_ | refine blk_alloc ?_ _)); refine blk_put (cs := #[.int .i64 0, .int .i64 0, .string x152002_2]) ?_ 2 _ rfl; (with_reducible repeat (first | refine blk_drewN ?_ _ | refine blk_drew ?_ | refine blk_alloc ?_ _)); refine blk_put (cs := #[.int .i64 0, .int .i64 x152001_2, .string x152002_2]) ?_ 1 _ rfl; (with_reducible repeat (first | refine blk_drewN ?_ _ | refine blk_drew ?_ | refine blk_alloc ?_ _)); refine blk_put (cs := #[.int .i64 x152000_2, .int .i64 x152001_2, .string x152002_2]) ?_ 0 _ rfl; (with_reducible repeat (first | refine blk_drewN ?_ _ | refine blk_drew ?_ | refine blk_alloc ?_ _)); exact BK151.out) Try.underlying36 rfl (by kernel_rfl)) rfl ?_
                      exact ⟨by first | rfl | (simp [errW_none, errW_some] <;> rfl) | (simp [*, errW_none, errW_some] <;> rfl), by repeat (first | (with_reducible first | exact HB.out | apply below_alloc | apply pw_below_drewN | apply below_drew1 | refine below_set ?_ GE151.out) | exact HB.out)⟩
              · rw [if_neg c19] at H
                have c19b0 : ((bt a0 0) == 3) = false := beq_eq_false_iff_ne.mpr c19
                have c19b1 : ((bt a0 0) != 3) = true := bne_iff_ne.mpr c19
                simp only [Option.some.injEq, Prod.mk.injEq] at H
                obtain ⟨rfl, rfl, rfl, rfl⟩ := H
                have p18 : 0 ≤ (0 : Int) := (by omega)
                have q18 : 0 < a0.size := (by have : (0 : Int) < (a0.size : Int) := of_decide_eq_true (by first | (with_reducible assumption) | assumption); omega)
                have hx18 : ∀ h : 0 < a0.size, ((a0[0]'h).toNat : Int) = bt a0 0 := bt_at a0 0
                clear p18
                have qi18 : (0 < (a0.size : Int)) = True := eq_true (of_decide_eq_true (by first | (with_reducible assumption) | assumption))
                replace q18 := eq_true q18
                have hcz48_0 : wc.cell? ⟨gb151, 0, none⟩ = some (.int .i64 0) := (blk_cell BK151.out 0).trans rfl
                have hcz48_1 : wc.cell? ⟨gb151, 1, none⟩ = some (.int .i64 0) := (blk_cell BK151.out 1).trans rfl
                have hcz48_2 : wc.cell? ⟨gb151, 2, none⟩ = some (.string (⟨#[]⟩ : ByteArray)) := (blk_cell BK151.out 2).trans rfl
                have hfz48_0 := blk_frozen BK151.out 0
                have hfz48_1 := blk_frozen BK151.out 1
                have hfz48_2 := blk_frozen BK151.out 2
                go_wp2
                refine bodyPost_ret (results_ct rfl _ _ gb151 36 #[.int .i64 0, .int .i64 0, .string (⟨#[]⟩ : ByteArray)] (0, 0) _ rfl (by (with_reducible repeat (first | refine blk_drewN ?_ _ | refine blk_drew ?_ | refine blk_alloc ?_ _)); refine blk_put (cs := #[.int .i64 0, .int .i64 0, .string (⟨#[]⟩ : ByteArray)]) ?_ 2 _ rfl; (with_reducible repeat (first | refine blk_drewN ?_ _ | refine blk_drew ?_ | refine blk_alloc ?_ _)); refine blk_put (cs := #[.int .i64 0, .int .i64 0, .string (⟨#[]⟩ : ByteArray)]) ?_ 1 _ rfl; (with_reducible repeat (first | refine blk_drewN ?_ _ | refine blk_drew ?_ | refine blk_alloc ?_ _)); refine blk_put (cs := #[.int .i64 0, .int .i64 0, .string (⟨#[]⟩ : ByteArray)]) ?_ 0 _ rfl; (with_reducible repeat (first | refine blk_drewN ?_ _ | refine blk_drew ?_ | refine blk_alloc ?_ _)); exact BK151.out) Try.underlying36 rfl (by kernel_rfl)) rfl ?_
                exact ⟨by first | rfl | (simp [errW_none, errW_some] <;> rfl) | (simp [*, errW_none, errW_some] <;> rfl), by repeat (first | (with_reducible first | exact HB.out | apply below_alloc | apply pw_below_drewN | apply below_drew1 | refine below_set ?_ GE151.out) | exact HB.out)⟩
            · rw [if_neg c17] at H
              exact absurd H (by simp)
  · rw [if_neg c2] at H
    exact absurd H (by simp)

/-! ### lintelref02_Decode: function 33 -/
def lintelref02_Decode.l0 : Nat → ByteArray → List (S36) → Option ((List (S36)) × Int)
  | 0, _, _ => none
  | k + 1, x0, x4 => if (x0.size : Int) > 0 then ((lintelref02_first.f k x0).bind fun bt155 => (if bt155.2.2.2 = 0 then (some (([] : List (S36)), 20)) else ((lintelref01_Right.f bt155.1 bt155.2.1 bt155.2.2.1).bind fun t160 => (if t160 = true then (if (x4.length : Int) = 8 then (some (([] : List (S36)), 20)) else (if x4.length < 4398046511104 then (if 0 ≤ bt155.2.2.2 then (if bt155.2.2.2 ≤ (x0.size : Int) then (lintelref02_Decode.l0 k (x0.extract (bt155.2.2.2 : Int).toNat x0.size) (x4 ++ [(⟨bt155.1, bt155.2.1, bt155.2.2.1⟩ : S36)])) else (none)) else (none)) else (none))) else (some (([] : List (S36)), 20)))))) else (some (x4, 0))
def lintelref02_Decode.f (k : Nat) (a0 : ByteArray) : Option ((List (S36)) × Int) := lintelref02_Decode.l0 k a0 ([] : List (S36))
theorem lintelref02_Decode.mono_l : ∀ k, (∀ y0 y1, LeO (lintelref02_Decode.l0 k y0 y1) (lintelref02_Decode.l0 (k + 1) y0 y1))
  | 0 => fun _ _ r h => by simp [lintelref02_Decode.l0] at h
  | k + 1 => by
    have ih0 := lintelref02_Decode.mono_l k
    · intro y0 y1
      unfold lintelref02_Decode.l0
      repeat' first
      | (with_reducible exact ih0 _ _)
      | (with_reducible exact lintelref02_first.mono _ _)
      | (with_reducible exact LeO.refl _)
      | (with_reducible exact LeO.none _)
      | (with_reducible refine LeO.ite ?_ ?_)
      | (with_reducible refine LeO.bind ?_ (fun _ => ?_))
      | exact ih0 _ _
      | exact lintelref02_first.mono _ _
      | exact LeO.none _
      | refine LeO.ite ?_ ?_
      | refine LeO.bind ?_ (fun _ => ?_)
theorem lintelref02_Decode.mono : ∀ a0 k, LeO (lintelref02_Decode.f k a0) (lintelref02_Decode.f (k + 1) a0) := by
  intro a0 k
  have ih0 := lintelref02_Decode.mono_l k
  unfold lintelref02_Decode.f
  repeat' first
      | (with_reducible exact ih0 _ _)
      | (with_reducible exact lintelref02_first.mono _ _)
      | (with_reducible exact LeO.refl _)
      | (with_reducible exact LeO.none _)
      | (with_reducible refine LeO.ite ?_ ?_)
      | (with_reducible refine LeO.bind ?_ (fun _ => ?_))
      | exact ih0 _ _
      | exact lintelref02_first.mono _ _
      | exact LeO.none _
      | refine LeO.ite ?_ ?_
      | refine LeO.bind ?_ (fun _ => ?_)
set_option maxHeartbeats 8000000 in
set_option maxRecDepth 100000 in
theorem lintelref02_Decode.calls (k : Nat) (a0 : ByteArray) (r1 : List (S36)) (r2 : Int) (w : World) (h : lintelref02_Decode.f k a0 = some (r1, r2)) :
    Calls Try.prog 33 #[.string a0] w fun e w' => ∃ v0_ : Value, e = .returned (.tuple #[v0_, .int .i64 r2]) ∧ Kd.R k36 36 w' w.heap.size (fun _ => True) v0_ r1 ∧ Below w.heap.size w w' := by
  have hu36 := Try.underlying36
  have HB := Aside0.mk (Below.refl w.heap.size w)
  have H : (lintelref02_Decode.l0 k a0 ([] : List (S36))) = some (r1, r2) := h
  clear h
  have H' := Aside0.mk H
  clear H
  go_enter Try.func33, Try.ntmps33
  go_wp2
  go_loopg [0, 4] k (fun kq v0 v4 w' => ∃ (x0_1 : ByteArray) (x4_1 : List (S36)), v0 = .string x0_1 ∧ Aside0 (lintelref02_Decode.l0 kq x0_1 x4_1 = some (r1, r2)) ∧ Aside0 (kq ≤ k) ∧ Aside0 (Kd.R k36 36 w' w.heap.size (fun _ => True) v4 x4_1) ∧ Aside0 (Below w.heap.size w w'))
  case atStart => exact ⟨(a0), (([] : List (S36))), (by first | rfl | (simp; done) | (simp [*]; done)), H', ⟨Nat.le_refl _⟩, ⟨by first | exact Kd.R_nil _ _ _ _ _ | exact Kd.N_nil _ _ _ _ _ | exact Kd.V_nil _ _ _ _ _ | exact Kd.Q_nil _ _ _ _ _ | exact Kd.S_nil _ _ _ _ _⟩, ⟨by repeat (first | (with_reducible first | exact HB.out | apply below_alloc | apply pw_below_drewN | apply below_drew1) | exact HB.out)⟩⟩
  case round =>
    clear H'
    obtain ⟨x0_1, x4_1, rfl, HA, HK1, HO_4, HB⟩ := hrel
    cases gk with
    | zero => exact absurd HA.out (by simp [lintelref02_Decode.l0])
    | succ k1 =>
      have H := HA.out
      clear HA
      simp only [lintelref02_Decode.l0] at H
      by_cases c2 : (x0_1.size : Int) > 0
      · rw [if_pos c2] at H
        have c2b0 : decide (0 < (x0_1.size : Int)) = true := decide_eq_true c2
        have c2b1 : decide (0 < x0_1.size) = true := decide_eq_true (by omega)
        clear c2
        replace H := Option.bind_eq_some_iff.mp H
        obtain ⟨⟨t155, t156, t157, t158⟩, A30, H⟩ := H
        replace H : (if t158 = 0 then (some (([] : List (S36)), 20)) else ((lintelref01_Right.f t155 t156 t157).bind fun t160 => (if t160 = true then (if (x4_1.length : Int) = 8 then (some (([] : List (S36)), 20)) else (if x4_1.length < 4398046511104 then (if 0 ≤ t158 then (if t158 ≤ (x0_1.size : Int) then (lintelref02_Decode.l0 k1 (x0_1.extract (t158 : Int).toNat x0_1.size) (x4_1 ++ [(⟨t155, t156, t157⟩ : S36)])) else (none)) else (none)) else (none))) else (some (([] : List (S36)), 20))))) = some (r1, r2) := H
        have A3 := Aside0.mk A30
        clear A30
        by_cases c4 : t158 = 0
        · rw [if_pos c4] at H
          have c4b0 : (t158 == 0) = true := beq_iff_eq.mpr c4
          have c4b1 : (t158 != 0) = false := bne_eq_false_iff_eq.mpr c4
          clear c4
          simp only [Option.some.injEq, Prod.mk.injEq] at H
          obtain ⟨rfl, rfl⟩ := H
          go_wp2_with (first | ((with_reducible refine gate_callee (f := 46) rfl ?_); refine goesL_ (some 12) rfl rfl Try.func46 (by kernel_rfl) rfl #[.string x0_1] rfl (by (try simp only [List.map_toArray, List.map_cons, List.map_nil]); first | done | rfl | (simp only [List.length_drop, List.length_take]; rfl)) ?_; (with_reducible refine (lintelref02_first.calls k1 x0_1 t155 t156 t157 t158 _ A3.out).mono ?_); rintro e w5 ⟨rfl, hb⟩; refine ⟨_, rfl, ?_⟩; have n0_ := Aside0.mk (Kd.R_below (by (with_reducible repeat (first | apply Kd.R_alloc | apply Kd.R_drewN | apply Kd.R_drew)); exact HO_4.out) hb); have n1_ := Aside0.mk (below_step (by repeat (first | (with_reducible first | exact HB.out | apply below_alloc | apply pw_below_drewN | apply below_drew1) | exact HB.out)) hb); clear HO_4; clear HB; have HO_4 := n0_; have HB := n1_; clear n0_ n1_; (try clear hb); (try clear hb2); (try clear hk); (try clear hi)) | ((with_reducible refine gate_dst (N := 5) rfl ?_); (try (refine gate_guard (by rfl) ?_; dsimp only)); refine box_event ?hg (N := 5) ?hd (cs := #[.int .i64 0, .int .i64 0, .string (⟨#[]⟩ : ByteArray)]) (t := 36) ?hr ?_; (case hd => rfl); (case hg => rfl); (case hr => first | (go_simp; done) | (go_simp; rfl)); intro gb159 hg w6 hbox hb; have n0_ := Aside0.mk (Kd.R_below (Kd.R_elderB (by (with_reducible repeat (first | apply Kd.R_alloc | apply Kd.R_drewN | apply Kd.R_drew)); exact HO_4.out) gb159 (Nat.le_of_eq hg.symm)) hb); have n1_ := Aside0.mk (below_step (by repeat (first | (with_reducible first | exact HB.out | apply below_alloc | apply pw_below_drewN | apply below_drew1) | exact HB.out)) hb); have n2_ := Aside0.mk (hbox); have n3_ := Aside0.mk ((by rw [hg]; exact (below_size (by repeat (first | (with_reducible first | exact HB.out | apply below_alloc | apply pw_below_drewN | apply below_drew1) | exact HB.out))) : w.heap.size ≤ gb159)); have n4_ := Aside0.mk ((by rw [hg]; exact (below_size (by repeat (first | (with_reducible first | exact HB.out | apply below_alloc | apply pw_below_drewN | apply below_drew1) | exact HB.out))) : w.heap.size ≤ gb159)); clear HO_4; clear HB; have HO_4 := n0_; have HB := n1_; have BK159 := n2_; have GW159 := n3_; have GE159 := n4_; clear n0_ n1_ n2_ n3_ n4_; clear hb hbox hg; have hcz7_0 : w6.cell? ⟨gb159, 0, none⟩ = some (.int .i64 0) := (blk_cell BK159.out 0).trans rfl; have hcz7_1 : w6.cell? ⟨gb159, 1, none⟩ = some (.int .i64 0) := (blk_cell BK159.out 1).trans rfl; have hcz7_2 : w6.cell? ⟨gb159, 2, none⟩ = some (.string (⟨#[]⟩ : ByteArray)) := (blk_cell BK159.out 2).trans rfl; have hfz7_0 := blk_frozen BK159.out 0; have hfz7_1 := blk_frozen BK159.out 1; have hfz7_2 := blk_frozen BK159.out 2))
          go_ret2
          exact ⟨_, by first | rfl | (simp [errW_none, errW_some] <;> rfl) | (simp [*, errW_none, errW_some] <;> rfl), by first | exact Kd.R_nil _ _ _ _ _ | exact Kd.N_nil _ _ _ _ _ | exact Kd.V_nil _ _ _ _ _ | exact Kd.Q_nil _ _ _ _ _ | exact Kd.S_nil _ _ _ _ _, by repeat (first | (with_reducible first | exact HB.out | apply below_alloc | apply pw_below_drewN | apply below_drew1 | refine below_set ?_ GE159.out) | exact HB.out)⟩
        · rw [if_neg c4] at H
          have c4b0 : (t158 == 0) = false := beq_eq_false_iff_ne.mpr c4
          have c4b1 : (t158 != 0) = true := bne_iff_ne.mpr c4
          replace H := Option.bind_eq_some_iff.mp H
          obtain ⟨t160, A80, H⟩ := H
          replace H : (if t160 = true then (if (x4_1.length : Int) = 8 then (some (([] : List (S36)), 20)) else (if x4_1.length < 4398046511104 then (if 0 ≤ t158 then (if t158 ≤ (x0_1.size : Int) then (lintelref02_Decode.l0 k1 (x0_1.extract (t158 : Int).toNat x0_1.size) (x4_1 ++ [(⟨t155, t156, t157⟩ : S36)])) else (none)) else (none)) else (none))) else (some (([] : List (S36)), 20))) = some (r1, r2) := H
          have A8 := Aside0.mk A80
          clear A80
          by_cases c9 : t160 = true
          · subst c9
            have H1 : (if (x4_1.length : Int) = 8 then (some (([] : List (S36)), 20)) else (if x4_1.length < 4398046511104 then (if 0 ≤ t158 then (if t158 ≤ (x0_1.size : Int) then (lintelref02_Decode.l0 k1 (x0_1.extract (t158 : Int).toNat x0_1.size) (x4_1 ++ [(⟨t155, t156, t157⟩ : S36)])) else (none)) else (none)) else (none))) = some (r1, r2) := by rw [if_pos rfl] at H; exact H
            clear H
            have H := H1
            clear H1
            by_cases c10 : (x4_1.length : Int) = 8
            · rw [if_pos c10] at H
              have c10b0 : ((x4_1.length : Int) == 8) = true := beq_iff_eq.mpr c10
              have c10b1 : ((x4_1.length : Int) != 8) = false := bne_eq_false_iff_eq.mpr c10
              clear c10
              simp only [Option.some.injEq, Prod.mk.injEq] at H
              obtain ⟨rfl, rfl⟩ := H
              go_wp2_with (first | ((with_reducible refine gate_callee (f := 46) rfl ?_); refine goesL_ (some 12) rfl rfl Try.func46 (by kernel_rfl) rfl #[.string x0_1] rfl (by (try simp only [List.map_toArray, List.map_cons, List.map_nil]); first | done | rfl | (simp only [List.length_drop, List.length_take]; rfl)) ?_; (with_reducible refine (lintelref02_first.calls k1 x0_1 t155 t156 t157 t158 _ A3.out).mono ?_); rintro e w11 ⟨rfl, hb⟩; refine ⟨_, rfl, ?_⟩; have n0_ := Aside0.mk (Kd.R_below (by (with_reducible repeat (first | apply Kd.R_alloc | apply Kd.R_drewN | apply Kd.R_drew)); exact HO_4.out) hb); have n1_ := Aside0.mk (below_step (by repeat (first | (with_reducible first | exact HB.out | apply below_alloc | apply pw_below_drewN | apply below_drew1) | exact HB.out)) hb); clear HO_4; clear HB; have HO_4 := n0_; have HB := n1_; clear n0_ n1_; (try clear hb); (try clear hb2); (try clear hk); (try clear hi)) | ((with_reducible refine gate_dst (N := 5) rfl ?_); (try (refine gate_guard (by rfl) ?_; dsimp only)); refine box_event ?hg (N := 5) ?hd (cs := #[.int .i64 0, .int .i64 0, .string (⟨#[]⟩ : ByteArray)]) (t := 36) ?hr ?_; (case hd => rfl); (case hg => rfl); (case hr => first | (go_simp; done) | (go_simp; rfl)); intro gb159 hg w12 hbox hb; have n0_ := Aside0.mk (Kd.R_below (Kd.R_elderB (by (with_reducible repeat (first | apply Kd.R_alloc | apply Kd.R_drewN | apply Kd.R_drew)); exact HO_4.out) gb159 (Nat.le_of_eq hg.symm)) hb); have n1_ := Aside0.mk (below_step (by repeat (first | (with_reducible first | exact HB.out | apply below_alloc | apply pw_below_drewN | apply below_drew1) | exact HB.out)) hb); have n2_ := Aside0.mk (hbox); have n3_ := Aside0.mk ((by rw [hg]; exact (below_size (by repeat (first | (with_reducible first | exact HB.out | apply below_alloc | apply pw_below_drewN | apply below_drew1) | exact HB.out))) : w.heap.size ≤ gb159)); have n4_ := Aside0.mk ((by rw [hg]; exact (below_size (by repeat (first | (with_reducible first | exact HB.out | apply below_alloc | apply pw_below_drewN | apply below_drew1) | exact HB.out))) : w.heap.size ≤ gb159)); clear HO_4; clear HB; have HO_4 := n0_; have HB := n1_; have BK159 := n2_; have GW159 := n3_; have GE159 := n4_; clear n0_ n1_ n2_ n3_ n4_; clear hb hbox hg; have hcz13_0 : w12.cell? ⟨gb159, 0, none⟩ = some (.int .i64 0) := (blk_cell BK159.out 0).trans rfl; have hcz13_1 : w12.cell? ⟨gb159, 1, none⟩ = some (.int .i64 0) := (blk_cell BK159.out 1).trans rfl; have hcz13_2 : w12.cell? ⟨gb159, 2, none⟩ = some (.string (⟨#[]⟩ : ByteArray)) := (blk_cell BK159.out 2).trans rfl; have hfz13_0 := blk_frozen BK159.out 0; have hfz13_1 := blk_frozen BK159.out 1; have hfz13_2 := blk_frozen BK159.out 2) | (go_at_call 41; (with_reducible refine (lintelref01_Right.calls t155 t156 t157 true _ A8.out).mono ?_); rintro e w14 ⟨rfl, hb⟩; have n0_ := Aside0.mk (Kd.R_below (by (with_reducible repeat (first | apply Kd.R_alloc | apply Kd.R_drewN | apply Kd.R_drew)); exact (Kd.R_mono (Kd.R_far (p := ⟨gb159, 2, none⟩) (Kd.R_far (p := ⟨gb159, 1, none⟩) (Kd.R_far (p := ⟨gb159, 0, none⟩) (Kd.R_mono HO_4.out (fun k_ hk => (⟨hk, hk.2⟩ : _ ∧ k_ ≠ gb159))) (fun _ hk => hk.2) (.int .i64 t155)) (fun _ hk => hk.2) (.int .i64 t156)) (fun _ hk => hk.2) (.string t157)) (fun _ h_ => h_.1))) hb); have n1_ := Aside0.mk (blk_below (g := gb159) (o := .cells #[.int .i64 t155, .int .i64 t156, .string t157] 36 (0, 0)) (by (with_reducible repeat (first | refine blk_drewN ?_ _ | refine blk_drew ?_ | refine blk_alloc ?_ _)); refine blk_put (cs := #[.int .i64 t155, .int .i64 t156, .string (⟨#[]⟩ : ByteArray)]) ?_ 2 _ rfl; (with_reducible repeat (first | refine blk_drewN ?_ _ | refine blk_drew ?_ | refine blk_alloc ?_ _)); refine blk_put (cs := #[.int .i64 t155, .int .i64 0, .string (⟨#[]⟩ : ByteArray)]) ?_ 1 _ rfl; (with_reducible repeat (first | refine blk_drewN ?_ _ | refine blk_drew ?_ | refine blk_alloc ?_ _)); refine blk_put (cs := #[.int .i64 0, .int .i64 0, .string (⟨#[]⟩ : ByteArray)]) ?_ 0 _ rfl; (with_reducible repeat (first | refine blk_drewN ?_ _ | refine blk_drew ?_ | refine blk_alloc ?_ _)); exact BK159.out) hb); have n2_ := Aside0.mk (below_step (by repeat (first | (with_reducible first | exact HB.out | apply below_alloc | apply pw_below_drewN | apply below_drew1 | refine below_set ?_ GE159.out) | exact HB.out)) hb); clear HO_4; clear BK159; clear HB; have HO_4 := n0_; have BK159 := n1_; have HB := n2_; clear n0_ n1_ n2_; (try clear hb); (try clear hb2); (try clear hk); (try clear hi); obtain ⟨Ao15, co15, eo15⟩ := Kd.R_slice HO_4.out; subst eo15))
              go_ret2
              exact ⟨_, by first | rfl | (simp [errW_none, errW_some] <;> rfl) | (simp [*, errW_none, errW_some] <;> rfl), by first | exact Kd.R_nil _ _ _ _ _ | exact Kd.N_nil _ _ _ _ _ | exact Kd.V_nil _ _ _ _ _ | exact Kd.Q_nil _ _ _ _ _ | exact Kd.S_nil _ _ _ _ _, by repeat (first | (with_reducible first | exact HB.out | apply below_alloc | apply pw_below_drewN | apply below_drew1 | refine below_set ?_ GE159.out) | exact HB.out)⟩
            · rw [if_neg c10] at H
              have c10b0 : ((x4_1.length : Int) == 8) = false := beq_eq_false_iff_ne.mpr c10
              have c10b1 : ((x4_1.length : Int) != 8) = true := bne_iff_ne.mpr c10
              by_cases c16 : x4_1.length < 4398046511104
              · rw [if_pos c16] at H
                have LMc16 := Aside0.mk c16
                clear c16
                obtain ⟨y161, hy161⟩ : ∃ y_ : List (S36), y_ = (x4_1 ++ [(⟨t155, t156, t157⟩ : S36)]) := ⟨_, rfl⟩
                replace H : (if 0 ≤ t158 then (if t158 ≤ (x0_1.size : Int) then (lintelref02_Decode.l0 k1 (x0_1.extract (t158 : Int).toNat x0_1.size) y161) else (none)) else (none)) = some (r1, r2) := by first | (rw [hy161]; with_reducible exact H) | (have H2_ := (Option.bind_some _ _).symm.trans H; rw [hy161]; with_reducible exact H2_) | (have H2_ := (Option.bind_some _ _).symm.trans H; with_reducible exact H2_) | with_reducible exact H | (rw [hy161]; exact H) | exact H
                have Ny161 := Aside0.mk hy161
                clear hy161
                by_cases c17 : 0 ≤ t158
                · rw [if_pos c17] at H
                  have c17b0 := eq_true c17
                  have c17b1 : decide (0 ≤ t158) = true := decide_eq_true c17
                  clear c17
                  by_cases c18 : t158 ≤ (x0_1.size : Int)
                  · rw [if_pos c18] at H
                    have c18b0 := eq_true c18
                    have c18b1 : decide (t158 ≤ (x0_1.size : Int)) = true := decide_eq_true c18
                    clear c18
                    have H' := Aside0.mk H
                    clear H
                    go_wp2_with (first | ((with_reducible refine gate_callee (f := 46) rfl ?_); refine goesL_ (some 12) rfl rfl Try.func46 (by kernel_rfl) rfl #[.string x0_1] rfl (by (try simp only [List.map_toArray, List.map_cons, List.map_nil]); first | done | rfl | (simp only [List.length_drop, List.length_take]; rfl)) ?_; (with_reducible refine (lintelref02_first.calls k1 x0_1 t155 t156 t157 t158 _ A3.out).mono ?_); rintro e w19 ⟨rfl, hb⟩; refine ⟨_, rfl, ?_⟩; have n0_ := Aside0.mk (Kd.R_below (by (with_reducible repeat (first | apply Kd.R_alloc | apply Kd.R_drewN | apply Kd.R_drew)); exact HO_4.out) hb); have n1_ := Aside0.mk (below_step (by repeat (first | (with_reducible first | exact HB.out | apply below_alloc | apply pw_below_drewN | apply below_drew1) | exact HB.out)) hb); clear HO_4; clear HB; have HO_4 := n0_; have HB := n1_; clear n0_ n1_; (try clear hb); (try clear hb2); (try clear hk); (try clear hi)) | ((with_reducible refine gate_dst (N := 5) rfl ?_); (try (refine gate_guard (by rfl) ?_; dsimp only)); refine box_event ?hg (N := 5) ?hd (cs := #[.int .i64 0, .int .i64 0, .string (⟨#[]⟩ : ByteArray)]) (t := 36) ?hr ?_; (case hd => rfl); (case hg => rfl); (case hr => first | (go_simp; done) | (go_simp; rfl)); intro gb159 hg w20 hbox hb; have n0_ := Aside0.mk (Kd.R_below (Kd.R_elderB (by (with_reducible repeat (first | apply Kd.R_alloc | apply Kd.R_drewN | apply Kd.R_drew)); exact HO_4.out) gb159 (Nat.le_of_eq hg.symm)) hb); have n1_ := Aside0.mk (below_step (by repeat (first | (with_reducible first | exact HB.out | apply below_alloc | apply pw_below_drewN | apply below_drew1) | exact HB.out)) hb); have n2_ := Aside0.mk (hbox); have n3_ := Aside0.mk ((by rw [hg]; exact (below_size (by repeat (first | (with_reducible first | exact HB.out | apply below_alloc | apply pw_below_drewN | apply below_drew1) | exact HB.out))) : w.heap.size ≤ gb159)); have n4_ := Aside0.mk ((by rw [hg]; exact (below_size (by repeat (first | (with_reducible first | exact HB.out | apply below_alloc | apply pw_below_drewN | apply below_drew1) | exact HB.out))) : w.heap.size ≤ gb159)); clear HO_4; clear HB; have HO_4 := n0_; have HB := n1_; have BK159 := n2_; have GW159 := n3_; have GE159 := n4_; clear n0_ n1_ n2_ n3_ n4_; clear hb hbox hg; have hcz21_0 : w20.cell? ⟨gb159, 0, none⟩ = some (.int .i64 0) := (blk_cell BK159.out 0).trans rfl; have hcz21_1 : w20.cell? ⟨gb159, 1, none⟩ = some (.int .i64 0) := (blk_cell BK159.out 1).trans rfl; have hcz21_2 : w20.cell? ⟨gb159, 2, none⟩ = some (.string (⟨#[]⟩ : ByteArray)) := (blk_cell BK159.out 2).trans rfl; have hfz21_0 := blk_frozen BK159.out 0; have hfz21_1 := blk_frozen BK159.out 1; have hfz21_2 := blk_frozen BK159.out 2) | (go_at_call 41; (with_reducible refine (lintelref01_Right.calls t155 t156 t157 true _ A8.out).mono ?_); rintro e w22 ⟨rfl, hb⟩; have n0_ := Aside0.mk (Kd.R_below (by (with_reducible repeat (first | apply Kd.R_alloc | apply Kd.R_drewN | apply Kd.R_drew)); exact (Kd.R_mono (Kd.R_far (p := ⟨gb159, 2, none⟩) (Kd.R_far (p := ⟨gb159, 1, none⟩) (Kd.R_far (p := ⟨gb159, 0, none⟩) (Kd.R_mono HO_4.out (fun k_ hk => (⟨hk, hk.2⟩ : _ ∧ k_ ≠ gb159))) (fun _ hk => hk.2) (.int .i64 t155)) (fun _ hk => hk.2) (.int .i64 t156)) (fun _ hk => hk.2) (.string t157)) (fun _ h_ => h_.1))) hb); have n1_ := Aside0.mk (blk_below (g := gb159) (o := .cells #[.int .i64 t155, .int .i64 t156, .string t157] 36 (0, 0)) (by (with_reducible repeat (first | refine blk_drewN ?_ _ | refine blk_drew ?_ | refine blk_alloc ?_ _)); refine blk_put (cs := #[.int .i64 t155, .int .i64 t156, .string (⟨#[]⟩ : ByteArray)]) ?_ 2 _ rfl; (with_reducible repeat (first | refine blk_drewN ?_ _ | refine blk_drew ?_ | refine blk_alloc ?_ _)); refine blk_put (cs := #[.int .i64 t155, .int .i64 0, .string (⟨#[]⟩ : ByteArray)]) ?_ 1 _ rfl; (with_reducible repeat (first | refine blk_drewN ?_ _ | refine blk_drew ?_ | refine blk_alloc ?_ _)); refine blk_put (cs := #[.int .i64 0, .int .i64 0, .string (⟨#[]⟩ : ByteArray)]) ?_ 0 _ rfl; (with_reducible repeat (first | refine blk_drewN ?_ _ | refine blk_drew ?_ | refine blk_alloc ?_ _)); exact BK159.out) hb); have n2_ := Aside0.mk (below_step (by repeat (first | (with_reducible first | exact HB.out | apply below_alloc | apply pw_below_drewN | apply below_drew1 | refine below_set ?_ GE159.out) | exact HB.out)) hb); clear HO_4; clear BK159; clear HB; have HO_4 := n0_; have BK159 := n1_; have HB := n2_; clear n0_ n1_ n2_; (try clear hb); (try clear hb2); (try clear hk); (try clear hi); obtain ⟨Ao23, co23, eo23⟩ := Kd.R_slice HO_4.out; subst eo23; have hcz24_0 : w22.cell? ⟨gb159, 0, none⟩ = some (.int .i64 t155) := (blk_cell BK159.out 0).trans rfl; have hcz24_1 : w22.cell? ⟨gb159, 1, none⟩ = some (.int .i64 t156) := (blk_cell BK159.out 1).trans rfl; have hcz24_2 : w22.cell? ⟨gb159, 2, none⟩ = some (.string t157) := (blk_cell BK159.out 2).trans rfl; have hfz24_0 := blk_frozen BK159.out 0; have hfz24_1 := blk_frozen BK159.out 1; have hfz24_2 := blk_frozen BK159.out 2) | ((with_reducible refine gate_builtin (b := .append) (xs := #[.tmp 27, .tmp 29]) rfl ?_); (try (refine gate_guard (by rfl) ?_; dsimp only)); at_builtin; refine Kd.R_append k36 (w0 := w) w.heap.size rfl (.tmp 27) (.tmp 29) 75 36 (.agg #[(.int .i64 0), (.int .i64 0), (.string ⟨#[]⟩)]) 32 rfl Try.underlying75 info36 rfl (by decide) (by omega) (.slice Ao23 x4_1.length co23) x4_1 (⟨t155, t156, t157⟩ : S36) [.int .i64 t155, .int .i64 t156, .string t157] (fun k_ => k_ ≠ gb159) (fun _ => False) rfl rfl ?aP (fun _ hk => hk.elim) ?aF ?aO ?aB ?aS ?aL ?_; (case aP => exact k36_mkM _ _ _ (⟨t155, t156, t157⟩ : S36)); (case aB => exact (by repeat (first | (with_reducible first | exact HB.out | apply below_alloc | apply pw_below_drewN | apply below_drew1 | refine below_set ?_ GE159.out) | exact HB.out))); (case aF => exact (fun k_ hk => Kd.freshB (g := gb159) (o := .cells #[.int .i64 t155, .int .i64 t156, .string t157] 36 (0, 0)) (by (with_reducible repeat (first | refine blk_drewN ?_ _ | refine blk_drew ?_ | refine blk_alloc ?_ _)); exact BK159.out) k_ hk)); (case aO => exact (by (with_reducible repeat (first | apply Kd.R_alloc | apply Kd.R_drewN | apply Kd.R_drew)); exact Kd.R_mono HO_4.out (fun _ hk => hk.2))); (case aS => exact (below_size (by repeat (first | (with_reducible first | exact HB.out | apply below_alloc | apply pw_below_drewN | apply below_drew1 | refine below_set ?_ GE159.out) | exact HB.out)))); (case aL => have := LMc16.out; omega); intro v162 w25 ho hb hg hat; rw [← Ny161.out] at ho; have n0_ := Aside0.mk (blk_grown (g := gb159) (o := .cells #[.int .i64 t155, .int .i64 t156, .string t157] 36 (0, 0)) (by (with_reducible repeat (first | refine blk_drewN ?_ _ | refine blk_drew ?_ | refine blk_alloc ?_ _)); exact BK159.out) hg (Kd.R_away HO_4.out (fun _ hk => hk.2))); have n1_ := Aside0.mk (hb); have n2_ := Aside0.mk (ho); clear BK159; clear HB; clear HO_4; have BK159 := n0_; have HB := n1_; have HO163 := n2_; clear n0_ n1_ n2_; clear ho hb hg hat))
                    go_roundg k1
                    case measure => have := HK1.out; omega
                    case rel => exact ⟨(x0_1.extract (t158 : Int).toNat x0_1.size), (y161), (by first | rfl | (simp; done) | (simp [*]; done)), H', ⟨by have := HK1.out; omega⟩, ⟨by (with_reducible repeat (first | apply Kd.R_alloc | apply Kd.R_drewN | apply Kd.R_drew)); exact Kd.R_mono HO163.out (fun _ hk => trivial)⟩, ⟨by repeat (first | (with_reducible first | exact HB.out | apply below_alloc | apply pw_below_drewN | apply below_drew1 | refine below_set ?_ GE159.out) | exact HB.out)⟩⟩
                  · rw [if_neg c18] at H
                    exact absurd H (by simp)
                · rw [if_neg c17] at H
                  exact absurd H (by simp)
              · rw [if_neg c16] at H
                exact absurd H (by simp)
          · replace c9 := Bool.eq_false_iff.mpr c9
            subst c9
            have H1 : (some (([] : List (S36)), 20)) = some (r1, r2) := by rw [if_neg (show ¬ (false = true) by decide)] at H; exact H
            clear H
            have H := H1
            clear H1
            simp only [Option.some.injEq, Prod.mk.injEq] at H
            obtain ⟨rfl, rfl⟩ := H
            go_wp2_with (first | ((with_reducible refine gate_callee (f := 46) rfl ?_); refine goesL_ (some 12) rfl rfl Try.func46 (by kernel_rfl) rfl #[.string x0_1] rfl (by (try simp only [List.map_toArray, List.map_cons, List.map_nil]); first | done | rfl | (simp only [List.length_drop, List.length_take]; rfl)) ?_; (with_reducible refine (lintelref02_first.calls k1 x0_1 t155 t156 t157 t158 _ A3.out).mono ?_); rintro e w26 ⟨rfl, hb⟩; refine ⟨_, rfl, ?_⟩; have n0_ := Aside0.mk (Kd.R_below (by (with_reducible repeat (first | apply Kd.R_alloc | apply Kd.R_drewN | apply Kd.R_drew)); exact HO_4.out) hb); have n1_ := Aside0.mk (below_step (by repeat (first | (with_reducible first | exact HB.out | apply below_alloc | apply pw_below_drewN | apply below_drew1) | exact HB.out)) hb); clear HO_4; clear HB; have HO_4 := n0_; have HB := n1_; clear n0_ n1_; (try clear hb); (try clear hb2); (try clear hk); (try clear hi)) | ((with_reducible refine gate_dst (N := 5) rfl ?_); (try (refine gate_guard (by rfl) ?_; dsimp only)); refine box_event ?hg (N := 5) ?hd (cs := #[.int .i64 0, .int .i64 0, .string (⟨#[]⟩ : ByteArray)]) (t := 36) ?hr ?_; (case hd => rfl); (case hg => rfl); (case hr => first | (go_simp; done) | (go_simp; rfl)); intro gb159 hg w27 hbox hb; have n0_ := Aside0.mk (Kd.R_below (Kd.R_elderB (by (with_reducible repeat (first | apply Kd.R_alloc | apply Kd.R_drewN | apply Kd.R_drew)); exact HO_4.out) gb159 (Nat.le_of_eq hg.symm)) hb); have n1_ := Aside0.mk (below_step (by repeat (first | (with_reducible first | exact HB.out | apply below_alloc | apply pw_below_drewN | apply below_drew1) | exact HB.out)) hb); have n2_ := Aside0.mk (hbox); have n3_ := Aside0.mk ((by rw [hg]; exact (below_size (by repeat (first | (with_reducible first | exact HB.out | apply below_alloc | apply pw_below_drewN | apply below_drew1) | exact HB.out))) : w.heap.size ≤ gb159)); have n4_ := Aside0.mk ((by rw [hg]; exact (below_size (by repeat (first | (with_reducible first | exact HB.out | apply below_alloc | apply pw_below_drewN | apply below_drew1) | exact HB.out))) : w.heap.size ≤ gb159)); clear HO_4; clear HB; have HO_4 := n0_; have HB := n1_; have BK159 := n2_; have GW159 := n3_; have GE159 := n4_; clear n0_ n1_ n2_ n3_ n4_; clear hb hbox hg; have hcz28_0 : w27.cell? ⟨gb159, 0, none⟩ = some (.int .i64 0) := (blk_cell BK159.out 0).trans rfl; have hcz28_1 : w27.cell? ⟨gb159, 1, none⟩ = some (.int .i64 0) := (blk_cell BK159.out 1).trans rfl; have hcz28_2 : w27.cell? ⟨gb159, 2, none⟩ = some (.string (⟨#[]⟩ : ByteArray)) := (blk_cell BK159.out 2).trans rfl; have hfz28_0 := blk_frozen BK159.out 0; have hfz28_1 := blk_frozen BK159.out 1; have hfz28_2 := blk_frozen BK159.out 2) | (go_at_call 41; (with_reducible refine (lintelref01_Right.calls t155 t156 t157 false _ A8.out).mono ?_); rintro e w29 ⟨rfl, hb⟩; have n0_ := Aside0.mk (Kd.R_below (by (with_reducible repeat (first | apply Kd.R_alloc | apply Kd.R_drewN | apply Kd.R_drew)); exact (Kd.R_mono (Kd.R_far (p := ⟨gb159, 2, none⟩) (Kd.R_far (p := ⟨gb159, 1, none⟩) (Kd.R_far (p := ⟨gb159, 0, none⟩) (Kd.R_mono HO_4.out (fun k_ hk => (⟨hk, hk.2⟩ : _ ∧ k_ ≠ gb159))) (fun _ hk => hk.2) (.int .i64 t155)) (fun _ hk => hk.2) (.int .i64 t156)) (fun _ hk => hk.2) (.string t157)) (fun _ h_ => h_.1))) hb); have n1_ := Aside0.mk (blk_below (g := gb159) (o := .cells #[.int .i64 t155, .int .i64 t156, .string t157] 36 (0, 0)) (by (with_reducible repeat (first | refine blk_drewN ?_ _ | refine blk_drew ?_ | refine blk_alloc ?_ _)); refine blk_put (cs := #[.int .i64 t155, .int .i64 t156, .string (⟨#[]⟩ : ByteArray)]) ?_ 2 _ rfl; (with_reducible repeat (first | refine blk_drewN ?_ _ | refine blk_drew ?_ | refine blk_alloc ?_ _)); refine blk_put (cs := #[.int .i64 t155, .int .i64 0, .string (⟨#[]⟩ : ByteArray)]) ?_ 1 _ rfl; (with_reducible repeat (first | refine blk_drewN ?_ _ | refine blk_drew ?_ | refine blk_alloc ?_ _)); refine blk_put (cs := #[.int .i64 0, .int .i64 0, .string (⟨#[]⟩ : ByteArray)]) ?_ 0 _ rfl; (with_reducible repeat (first | refine blk_drewN ?_ _ | refine blk_drew ?_ | refine blk_alloc ?_ _)); exact BK159.out) hb); have n2_ := Aside0.mk (below_step (by repeat (first | (with_reducible first | exact HB.out | apply below_alloc | apply pw_below_drewN | apply below_drew1 | refine below_set ?_ GE159.out) | exact HB.out)) hb); clear HO_4; clear BK159; clear HB; have HO_4 := n0_; have BK159 := n1_; have HB := n2_; clear n0_ n1_ n2_; (try clear hb); (try clear hb2); (try clear hk); (try clear hi)))
            go_ret2
            exact ⟨_, by first | rfl | (simp [errW_none, errW_some] <;> rfl) | (simp [*, errW_none, errW_some] <;> rfl), by first | exact Kd.R_nil _ _ _ _ _ | exact Kd.N_nil _ _ _ _ _ | exact Kd.V_nil _ _ _ _ _ | exact Kd.Q_nil _ _ _ _ _ | exact Kd.S_nil _ _ _ _ _, by repeat (first | (with_reducible first | exact HB.out | apply below_alloc | apply pw_below_drewN | apply below_drew1 | refine below_set ?_ GE159.out) | exact HB.out)⟩
      · rw [if_neg c2] at H
        have c2b0 : decide (0 < (x0_1.size : Int)) = false := decide_eq_false c2
        have c2b1 : decide (0 < x0_1.size) = false := decide_eq_false (by omega)
        clear c2
        simp only [Option.some.injEq, Prod.mk.injEq] at H
        obtain ⟨rfl, rfl⟩ := H
        go_wp2
        go_ret2
        exact ⟨_, by first | rfl | (simp [errW_none, errW_some] <;> rfl) | (simp [*, errW_none, errW_some] <;> rfl), by (with_reducible repeat (first | apply Kd.R_alloc | apply Kd.R_drewN | apply Kd.R_drew)); exact HO_4.out, by repeat (first | (with_reducible first | exact HB.out | apply below_alloc | apply pw_below_drewN | apply below_drew1) | exact HB.out)⟩

end Go.Proofs.Ytkhbmamcbhjafaa.PRef
