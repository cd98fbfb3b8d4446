/- wanted and played, walked. -/
import Derived.Test.YtkhbmamcbhjafaaDoW
namespace Go.Proofs.Ytkhbmamcbhjafaa.Keys
open Go.RowKit Go.Proofs.YtkhbmamcbhjafaaW.PrintWords Go.Proofs.YtkhbmamcbhjafaaW.PrintLast Go.Proofs.YtkhbmamcbhjafaaW.PrintMore Go.Proofs.Ytkhbmamcbhjafaa.Str Go.Proofs.Ytkhbmamcbhjafaa.PRef Go.Proofs.Ytkhbmamcbhjafaa.Stands Go.Proofs.Ytkhbmamcbhjafaa.Sl
set_option linter.unusedVariables false
set_option linter.unusedSimpArgs false
/-- What the first k rows should have. -/
def wantN (s : Sta) : Nat → Ents
  | 0 => []
  | k + 1 => wantStep s (wantN s k) k
theorem wantN_4 (s : Sta) : wantN s 4 = wantedL s := rfl
theorem of3_64 {k : Nat} (hk : k < 4) {l : List C} (h : RowG k l) : In64 (ofC l 3).f1 := by
  rcases h with rfl | ⟨v, h0, h1, rfl⟩
  · exact in64_small (n := 0) (by omega) (by omega)
  · exact in64_small (n := v) (by omega) (by omega)
set_option maxHeartbeats 4000000 in
set_option maxRecDepth 20000 in
theorem wanted_fun (g mb : Nat) (s : Sta) (hs : SG s) : Fun Try.prog 11 #[.pointer (some ⟨g, 0, none⟩)] (fun _ => True) [WP g mb s]
    (fun v => [HP.ex fun q : Nat => HP.and (v = .map (some q)) (HP.star (MP q (wantedL s)) (WP g mb s))]) := by
  intro w S hS hR
  obtain ⟨u0, u1, u2, u3, HW⟩ := WP_open (St.start hS)
  clear hS hR
  obtain ⟨A0, c0, e0, hc0, hC0⟩ := St.row_C (HW.mv 1)
  subst e0
  obtain ⟨A1, c1, e1, hc1, hC1⟩ := St.row_C (HW.mv 2)
  subst e1
  obtain ⟨A2, c2, e2, hc2, hC2⟩ := St.row_C (HW.mv 3)
  subst e2
  obtain ⟨A3, c3, e3, hc3, hC3⟩ := St.row_C (HW.mv 4)
  subst e3
  clear hC0 hC1 hC2 hC3
  have q0 : w.cell? ⟨g, 0, none⟩ = some (.slice A0 s.r0.length c0) := HW.cell 0
  have q1 : w.cell? ⟨g, 1, none⟩ = some (.slice A1 s.r1.length c1) := HW.cell 1
  have q2 : w.cell? ⟨g, 2, none⟩ = some (.slice A2 s.r2.length c2) := HW.cell 2
  have q3 : w.cell? ⟨g, 3, none⟩ = some (.slice A3 s.r3.length c3) := HW.cell 3
  have p0 : (w.alloc (.map #[] 0)).cell? ⟨g, 0, none⟩ = some (.slice A0 s.r0.length c0) := pw_cell_below (below_alloc (Below.refl _ _) _) q0
  have p1 : (w.alloc (.map #[] 0)).cell? ⟨g, 1, none⟩ = some (.slice A1 s.r1.length c1) := pw_cell_below (below_alloc (Below.refl _ _) _) q1
  have p2 : (w.alloc (.map #[] 0)).cell? ⟨g, 2, none⟩ = some (.slice A2 s.r2.length c2) := pw_cell_below (below_alloc (Below.refl _ _) _) q2
  have p3 : (w.alloc (.map #[] 0)).cell? ⟨g, 3, none⟩ = some (.slice A3 s.r3.length c3) := pw_cell_below (below_alloc (Below.refl _ _) _) q3
  have HS := HW.map_made .string Value.string Value.bool strKey strInj
  clear HW q0 q1 q2 q3
  have hmm := @run_makeMap Try.prog
  have hu1 := Try.underlying28
  have hu2 := Try.underlying25
  have hu3 := Try.underlying24
  have hu4 := Try.underlying26
  go_enter Try.func11, Try.ntmps11
  go_wp2_with fail
  clear p0 p1 p2 p3 hmm
  generalize w.alloc (.map #[] 0) = w1 at HS ⊢
  generalize w.heap.size = mq at HS ⊢
  go_loopw [11] (fun v11 w' => ∃ k : Nat, k ≤ 4 ∧ v11 = .int .i64 k ∧ St w S w' [MP mq (wantN s k), HP.obj g 28 [.slice A0 s.r0.length c0, .slice A1 s.r1.length c1, .slice A2 s.r2.length c2, .slice A3 s.r3.length c3, .map (some mb)], HP.row kC 73 (.slice A0 s.r0.length c0) s.r0, HP.row kC 73 (.slice A1 s.r1.length c1) s.r1, HP.row kC 73 (.slice A2 s.r2.length c2) s.r2, HP.row kC 73 (.slice A3 s.r3.length c3) s.r3, MP mb s.m]) (fun v11 _ => 4 - (intOf v11).toNat)
  case atStart => exact ⟨0, by omega, rfl, HS⟩
  case round =>
    clear HS
    obtain ⟨k, hk, rfl, HS⟩ := hrel
    have hWant : ∀ (k : Nat) (hk : k < 4) (A : Option Addr) (c : Nat) (l : List C) (hl : s.row k = l) (hlc : l.length ≤ c) (wr : World) (F : List HP) (i : Nat) (hrow : Kd.C kC wr A l.length l), Calls Try.prog 26 #[.slice A l.length c, .int .i64 3] wr fun e w' => e = .returned (.agg #[.int .i64 (ofC l 3).f0, .int .i64 (ofC l 3).f1, .string (ofC l 3).f2]) ∧ Below wr.heap.size wr w' := by
      intro k hk A c l hl hlc wr F i hrow
      have hg := hs k hk
      rw [hl] at hg
      have := rowG_len hg
      exact lintelref20_Of.calls (l.length + 1) A c l 3 _ _ _ wr hrow hlc (rof_eq l 3 (by omega))
    by_cases h4 : k = 4
    · subst h4
      go_wp2
      go_ret
      exact ⟨_, rfl, St.ex_in mq (St.and_in rfl (St.unstar ((WP_shut ((((((HS.mv 6).mv 6).mv 6).mv 6).mv 6).mv 6)).mv 1)))⟩
    · clear hWant
      rcases (show k = 0 ∨ k = 1 ∨ k = 2 ∨ k = 3 by omega) with rfl | rfl | rfl | rfl
      · have hix : ∀ w : World, (Instr.index 25 (.agg #[.slice A0 s.r0.length c0, .slice A1 s.r1.length c1, .slice A2 s.r2.length c2, .slice A3 s.r3.length c3]) (.int .i64 0)).run Try.prog w = .ok (.slice A0 s.r0.length c0) w := fun _ => by kernel_rfl
        have hg : RowG 0 s.r0 := hs 0 (by omega)
        have hgl := rowG_len hg
        by_cases hl : 0 < s.r0.length
        · have hlb : decide ((s.r0.length : Int) > 0) = true := decide_eq_true (by omega)
          have hstep : wantN s 1 = mput (wantN s 0) (entryK 4 (ofC s.r0 3) (numV 0)) true := by show wantStep s (wantN s 0) 0 = _; unfold wantStep; exact if_pos hl
          have HST := Aside0.mk hstep
          clear hstep
          obtain ⟨v, hv⟩ : ∃ v, ofC s.r0 3 = v := ⟨_, rfl⟩
          have hv64 : In64 v.f1 := by rw [← hv]; exact of3_64 (by omega) hg
          have hof := rof_eq s.r0 3 (by omega)
          rw [hv] at HST hof
          clear hv
          go_wp2_with fail
          refine (lintelref20_Of.calls (s.r0.length + 1) A0 c0 s.r0 3 _ _ _ wr (St.row_reads (HS.mv 2)).2.2 hc0 hof).mono ?_
          rintro e_ w2 ⟨rfl, hb⟩
          have HS_ := HS.later hb
          clear HS hb
          have HS := HS_
          clear HS_
          go_wp2_with fail
          refine (lintelref20_Num.calls 0 _ _ _ _ rfl).mono ?_
          rintro e_ w3 ⟨rfl, hb⟩
          have HS_ := HS.later hb
          clear HS hb
          have HS := HS_
          clear HS_
          go_wp2_with fail
          refine (lintelref20_Entry.calls 300 4 v.f0 v.f1 v.f2 1 0 ⟨#[]⟩ _ _ (rentry_eq 4 v (numV 0) (in64_small (by omega) (by omega)) hv64 (in64_small (n := 0) (by omega) (by omega)))).mono ?_
          rintro e_ w4 ⟨rfl, hb⟩
          have HS_ := HS.later hb
          clear HS hb
          have HS := HS_
          clear HS_
          obtain ⟨w5, hmu, HS5⟩ := HS.map_store (P := Try.prog) (t := 26) (kt := 9) (et := 4) Try.underlying26 Try.underlying9 (entryK 4 v (numV 0)) true
          clear HS
          go_wp2
          go_roundw
          case rel => exact ⟨1, by omega, by go_num, by rw [HST.out]; exact HS5⟩
          case measure => simp [intOf]
        · have hlb : decide ((s.r0.length : Int) > 0) = false := decide_eq_false (by omega)
          have hstep : wantN s 1 = wantN s 0 := by show wantStep s (wantN s 0) 0 = _; unfold wantStep; exact if_neg hl
          have HST := Aside0.mk hstep
          clear hstep
          go_wp2
          go_roundw
          case rel => exact ⟨1, by omega, by go_num, by rw [HST.out]; exact HS⟩
          case measure => simp [intOf]
      · have hix : ∀ w : World, (Instr.index 25 (.agg #[.slice A0 s.r0.length c0, .slice A1 s.r1.length c1, .slice A2 s.r2.length c2, .slice A3 s.r3.length c3]) (.int .i64 1)).run Try.prog w = .ok (.slice A1 s.r1.length c1) w := fun _ => by kernel_rfl
        have hg : RowG 1 s.r1 := hs 1 (by omega)
        have hgl := rowG_len hg
        by_cases hl : 0 < s.r1.length
        · have hlb : decide ((s.r1.length : Int) > 0) = true := decide_eq_true (by omega)
          have hstep : wantN s 2 = mput (wantN s 1) (entryK 4 (ofC s.r1 3) (numV 1)) true := by show wantStep s (wantN s 1) 1 = _; unfold wantStep; exact if_pos hl
          have HST := Aside0.mk hstep
          clear hstep
          obtain ⟨v, hv⟩ : ∃ v, ofC s.r1 3 = v := ⟨_, rfl⟩
          have hv64 : In64 v.f1 := by rw [← hv]; exact of3_64 (by omega) hg
          have hof := rof_eq s.r1 3 (by omega)
          rw [hv] at HST hof
          clear hv
          go_wp2_with fail
          refine (lintelref20_Of.calls (s.r1.length + 1) A1 c1 s.r1 3 _ _ _ wr (St.row_reads (HS.mv 3)).2.2 hc1 hof).mono ?_
          rintro e_ w2 ⟨rfl, hb⟩
          have HS_ := HS.later hb
          clear HS hb
          have HS := HS_
          clear HS_
          go_wp2_with fail
          refine (lintelref20_Num.calls 1 _ _ _ _ rfl).mono ?_
          rintro e_ w3 ⟨rfl, hb⟩
          have HS_ := HS.later hb
          clear HS hb
          have HS := HS_
          clear HS_
          go_wp2_with fail
          refine (lintelref20_Entry.calls 300 4 v.f0 v.f1 v.f2 1 1 ⟨#[]⟩ _ _ (rentry_eq 4 v (numV 1) (in64_small (by omega) (by omega)) hv64 (in64_small (n := 1) (by omega) (by omega)))).mono ?_
          rintro e_ w4 ⟨rfl, hb⟩
          have HS_ := HS.later hb
          clear HS hb
          have HS := HS_
          clear HS_
          obtain ⟨w5, hmu, HS5⟩ := HS.map_store (P := Try.prog) (t := 26) (kt := 9) (et := 4) Try.underlying26 Try.underlying9 (entryK 4 v (numV 1)) true
          clear HS
          go_wp2
          go_roundw
          case rel => exact ⟨2, by omega, by go_num, by rw [HST.out]; exact HS5⟩
          case measure => simp [intOf]
        · have hlb : decide ((s.r1.length : Int) > 0) = false := decide_eq_false (by omega)
          have hstep : wantN s 2 = wantN s 1 := by show wantStep s (wantN s 1) 1 = _; unfold wantStep; exact if_neg hl
          have HST := Aside0.mk hstep
          clear hstep
          go_wp2
          go_roundw
          case rel => exact ⟨2, by omega, by go_num, by rw [HST.out]; exact HS⟩
          case measure => simp [intOf]
      · have hix : ∀ w : World, (Instr.index 25 (.agg #[.slice A0 s.r0.length c0, .slice A1 s.r1.length c1, .slice A2 s.r2.length c2, .slice A3 s.r3.length c3]) (.int .i64 2)).run Try.prog w = .ok (.slice A2 s.r2.length c2) w := fun _ => by kernel_rfl
        have hg : RowG 2 s.r2 := hs 2 (by omega)
        have hgl := rowG_len hg
        by_cases hl : 0 < s.r2.length
        · have hlb : decide ((s.r2.length : Int) > 0) = true := decide_eq_true (by omega)
          have hstep : wantN s 3 = mput (wantN s 2) (entryK 4 (ofC s.r2 3) (numV 2)) true := by show wantStep s (wantN s 2) 2 = _; unfold wantStep; exact if_pos hl
          have HST := Aside0.mk hstep
          clear hstep
          obtain ⟨v, hv⟩ : ∃ v, ofC s.r2 3 = v := ⟨_, rfl⟩
          have hv64 : In64 v.f1 := by rw [← hv]; exact of3_64 (by omega) hg
          have hof := rof_eq s.r2 3 (by omega)
          rw [hv] at HST hof
          clear hv
          go_wp2_with fail
          refine (lintelref20_Of.calls (s.r2.length + 1) A2 c2 s.r2 3 _ _ _ wr (St.row_reads (HS.mv 4)).2.2 hc2 hof).mono ?_
          rintro e_ w2 ⟨rfl, hb⟩
          have HS_ := HS.later hb
          clear HS hb
          have HS := HS_
          clear HS_
          go_wp2_with fail
          refine (lintelref20_Num.calls 2 _ _ _ _ rfl).mono ?_
          rintro e_ w3 ⟨rfl, hb⟩
          have HS_ := HS.later hb
          clear HS hb
          have HS := HS_
          clear HS_
          go_wp2_with fail
          refine (lintelref20_Entry.calls 300 4 v.f0 v.f1 v.f2 1 2 ⟨#[]⟩ _ _ (rentry_eq 4 v (numV 2) (in64_small (by omega) (by omega)) hv64 (in64_small (n := 2) (by omega) (by omega)))).mono ?_
          rintro e_ w4 ⟨rfl, hb⟩
          have HS_ := HS.later hb
          clear HS hb
          have HS := HS_
          clear HS_
          obtain ⟨w5, hmu, HS5⟩ := HS.map_store (P := Try.prog) (t := 26) (kt := 9) (et := 4) Try.underlying26 Try.underlying9 (entryK 4 v (numV 2)) true
          clear HS
          go_wp2
          go_roundw
          case rel => exact ⟨3, by omega, by go_num, by rw [HST.out]; exact HS5⟩
          case measure => simp [intOf]
        · have hlb : decide ((s.r2.length : Int) > 0) = false := decide_eq_false (by omega)
          have hstep : wantN s 3 = wantN s 2 := by show wantStep s (wantN s 2) 2 = _; unfold wantStep; exact if_neg hl
          have HST := Aside0.mk hstep
          clear hstep
          go_wp2
          go_roundw
          case rel => exact ⟨3, by omega, by go_num, by rw [HST.out]; exact HS⟩
          case measure => simp [intOf]
      · have hix : ∀ w : World, (Instr.index 25 (.agg #[.slice A0 s.r0.length c0, .slice A1 s.r1.length c1, .slice A2 s.r2.length c2, .slice A3 s.r3.length c3]) (.int .i64 3)).run Try.prog w = .ok (.slice A3 s.r3.length c3) w := fun _ => by kernel_rfl
        have hg : RowG 3 s.r3 := hs 3 (by omega)
        have hgl := rowG_len hg
        by_cases hl : 0 < s.r3.length
        · have hlb : decide ((s.r3.length : Int) > 0) = true := decide_eq_true (by omega)
          have hstep : wantN s 4 = mput (wantN s 3) (entryK 4 (ofC s.r3 3) (numV 3)) true := by show wantStep s (wantN s 3) 3 = _; unfold wantStep; exact if_pos hl
          have HST := Aside0.mk hstep
          clear hstep
          obtain ⟨v, hv⟩ : ∃ v, ofC s.r3 3 = v := ⟨_, rfl⟩
          have hv64 : In64 v.f1 := by rw [← hv]; exact of3_64 (by omega) hg
          have hof := rof_eq s.r3 3 (by omega)
          rw [hv] at HST hof
          clear hv
          go_wp2_with fail
          refine (lintelref20_Of.calls (s.r3.length + 1) A3 c3 s.r3 3 _ _ _ wr (St.row_reads (HS.mv 5)).2.2 hc3 hof).mono ?_
          rintro e_ w2 ⟨rfl, hb⟩
          have HS_ := HS.later hb
          clear HS hb
          have HS := HS_
          clear HS_
          go_wp2_with fail
          refine (lintelref20_Num.calls 3 _ _ _ _ rfl).mono ?_
          rintro e_ w3 ⟨rfl, hb⟩
          have HS_ := HS.later hb
          clear HS hb
          have HS := HS_
          clear HS_
          go_wp2_with fail
          refine (lintelref20_Entry.calls 300 4 v.f0 v.f1 v.f2 1 3 ⟨#[]⟩ _ _ (rentry_eq 4 v (numV 3) (in64_small (by omega) (by omega)) hv64 (in64_small (n := 3) (by omega) (by omega)))).mono ?_
          rintro e_ w4 ⟨rfl, hb⟩
          have HS_ := HS.later hb
          clear HS hb
          have HS := HS_
          clear HS_
          obtain ⟨w5, hmu, HS5⟩ := HS.map_store (P := Try.prog) (t := 26) (kt := 9) (et := 4) Try.underlying26 Try.underlying9 (entryK 4 v (numV 3)) true
          clear HS
          go_wp2
          go_roundw
          case rel => exact ⟨4, by omega, by go_num, by rw [HST.out]; exact HS5⟩
          case measure => simp [intOf]
        · have hlb : decide ((s.r3.length : Int) > 0) = false := decide_eq_false (by omega)
          have hstep : wantN s 4 = wantN s 3 := by show wantStep s (wantN s 3) 3 = _; unfold wantStep; exact if_neg hl
          have HST := Aside0.mk hstep
          clear hstep
          go_wp2
          go_roundw
          case rel => exact ⟨4, by omega, by go_num, by rw [HST.out]; exact HS⟩
          case measure => simp [intOf]
def kO : Kd OpR := Kd.iso (Kd.pair (Kd.int .i64) (Kd.pair (Kd.int .i64) (Kd.pair Kd.bool Kd.bool))) (fun x : OpR => (x.f0, x.f1, x.f2, x.f3))
theorem kO_open {w : World} {x : OpR} {cs : List Value} (h : kO.K w x cs) : cs = [.int .i64 x.f0, .int .i64 x.f1, .bool x.f2, .bool x.f3] := by
  obtain ⟨_, _, rfl, rfl, ⟨_, _, rfl, rfl, ⟨_, _, rfl, rfl, rfl⟩⟩⟩ := h
  exact rfl
theorem at_O {w : World} {A : Option Addr} {n : Nat} {xs : List OpR} (h : Kd.C kO w A n xs) (i : Nat) (hi : i < xs.length) : ∃ ad, A = some ad ∧ w.cell? (ad.add (i * 4)) = some (.int .i64 xs[i].f0) ∧ w.cell? ⟨(ad.add (i * 4)).block, (ad.add (i * 4)).off + 1, none⟩ = some (.int .i64 xs[i].f1) ∧
    w.cell? ⟨(ad.add (i * 4)).block, (ad.add (i * 4)).off + 2, none⟩ = some (.bool xs[i].f2) ∧ w.cell? ⟨(ad.add (i * 4)).block, (ad.add (i * 4)).off + 3, none⟩ = some (.bool xs[i].f3) := by
  obtain ⟨ad, e, hc⟩ := h.2.2 (by have := h.1; omega)
  obtain ⟨c, _, hK, hc0⟩ := hc i xs[i] (List.getElem?_eq_getElem hi)
  have hc : ∀ j u, c[j]? = some u → w.cell? (ad.add (i * 4 + j)) = some u := hc0
  obtain rfl := kO_open hK
  exact ⟨ad, e, hc 0 _ rfl, by rw [← add_field _ _ 1 (by omega)]; exact hc 1 _ rfl, by rw [← add_field _ _ 2 (by omega)]; exact hc 2 _ rfl, by rw [← add_field _ _ 3 (by omega)]; exact hc 3 _ rfl⟩
set_option maxHeartbeats 4000000 in
set_option maxRecDepth 20000 in
theorem played_fun (A1 : Option Addr) (c1 : Nat) (first : List OpR) (hc1 : first.length ≤ c1) (A2 : Option Addr) (c2 : Nat) (after : List OpR) (hc2 : after.length ≤ c2) (hl1 : first.length ≤ 100000) (hl2 : after.length ≤ 100000) (one two : Int) :
    Fun Try.prog 9 #[.slice A1 first.length c1, .slice A2 after.length c2, .int .i64 one, .int .i64 two] (fun w => Kd.C kO w A1 first.length first ∧ Kd.C kO w A2 after.length after) []
      (fun v => [HP.ex fun g : Nat => HP.ex fun mb : Nat => HP.and (v = .pointer (some ⟨g, 0, none⟩)) (WP g mb (playL one two first after))]) := by
  intro w S hS hR
  have HS := (St.start hS).map_made .string Value.string Value.bool strKey strInj
  clear hS
  have hmm := @run_makeMap Try.prog
  have hu1 := Try.underlying28
  have hu2 := Try.underlying25
  have hu3 := Try.underlying39
  have hu4 := Try.underlying22
  go_enter Try.func9, Try.ntmps9
  go_wp2_with (first
    | ((with_reducible refine gate_dst (N := 16) rfl ?_); refine ev_box ?hg (N := 16) ?hd (cs := [.slice none 0 0, .slice none 0 0, .slice none 0 0, .slice none 0 0, .map (some w.heap.size)]) (t := 28) HS ?hr ?_; (case hd => rfl); (case hg => rfl); (case hr => first | (go_simp; done) | (go_simp; rfl)); intro g w1 HS_ hg_g; clear HS; have HS := HS_; clear HS_))
  clear hmm
  generalize w.heap.size = mb at HS ⊢
  have HS0 : St w S w1 [WP g mb sta0] := WP_shut ((((((((HS.mv 1).nil_ kC 73).nil_ kC 73).nil_ kC 73).nil_ kC 73).mv 5)))
  clear HS
  go_loopw [19] (fun v19 w' => ∃ j : Nat, j ≤ first.length ∧ v19 = .int .i64 j ∧ Aside0 (SG ((first.take j).foldl (doO one) sta0)) ∧ St w S w' [WP g mb ((first.take j).foldl (doO one) sta0)]) (fun v19 _ => first.length - (intOf v19).toNat)
  case atStart => exact ⟨0, Nat.zero_le _, rfl, ⟨sg0⟩, HS0⟩
  case round =>
    clear HS0
    obtain ⟨j, hj, rfl, HG, HS⟩ := hrel
    by_cases hlt : j < first.length
    · have hltI : (j : Int) < (first.length : Int) := by omega
      obtain ⟨ad, rfl, i0, i1, i2, i3⟩ := at_O (hR wr HS.ext).1 j hlt
      have hnext : (first.take (j + 1)).foldl (doO one) sta0 = doO one ((first.take j).foldl (doO one) sta0) first[j] := by rw [List.take_succ_eq_append_getElem hlt, List.foldl_append]; rfl
      obtain ⟨x, hx⟩ : ∃ x, first[j] = x := ⟨_, rfl⟩
      rw [hx] at i0 i1 i2 i3 hnext
      have HNX := Aside0.mk hnext
      clear hnext hx
      generalize (first.take j).foldl (doO one) sta0 = st at HG HS HNX
      go_wp2_with (first
        | ((with_reducible refine gate_dst (N := 11) rfl ?_); refine ev_box ?hg (N := 11) ?hd (cs := [.int .i64 0, .int .i64 0, .bool false, .bool false]) (t := 39) HS ?hr ?_; (case hd => rfl); (case hg => rfl); (case hr => first | (go_simp; done) | (go_simp; rfl)); intro ob w2 HS_ hg_ob; clear HS; have HS := HS_; clear HS_; clear i0 i1 i2 i3)
        | ((with_reducible refine gate_ (.store 39 (.tmp 11) (.tmp 22)) rfl ?_); refine ev_store rfl rfl 39 (.tmp 11) (.tmp 22) rfl HS rfl rfl (seg := [.int .i64 x.f0, .int .i64 x.f1, .bool x.f2, .bool x.f3]) rfl ?ht rfl ?hf ?_; (case ht => kernel_rfl); (case hf => first | (simp; done) | (simp [splice]; done)); intro w3 HS_; clear HS; have HS := HS_; clear HS_; have q_ob_0 : w3.cell? ⟨ob, 0, none⟩ = some (.int .i64 x.f0) := HS.cell 0; have q_ob_1 : w3.cell? ⟨ob, 1, none⟩ = some (.int .i64 x.f1) := HS.cell 1; have q_ob_2 : w3.cell? ⟨ob, 2, none⟩ = some (.bool x.f2) := HS.cell 2; have q_ob_3 : w3.cell? ⟨ob, 3, none⟩ = some (.bool x.f3) := HS.cell 3))
      refine ((do_fun g mb st HG.out x one).call (F := [HP.obj ob 39 [.int .i64 x.f0, .int .i64 x.f1, .bool x.f2, .bool x.f3]]) (HS.mv 1) (fun _ _ _ _ => trivial)).mono ?_
      rintro e_ w4 ⟨rfl, HS4⟩
      clear HS q_ob_0 q_ob_1 q_ob_2 q_ob_3
      go_wp2
      go_roundw
      case rel => exact ⟨j + 1, by omega, by go_num, ⟨by rw [HNX.out]; exact sg_do one st HG.out _ (opK_lt x) _ (opX_good x)⟩, by rw [HNX.out]; exact HS4.out 1⟩
      case measure => simp [intOf]; omega
    · have hjj : j = first.length := by omega
      subst hjj
      rw [List.take_length] at HS HG
      go_wp2_with fail
      obtain ⟨s1, hs1⟩ : ∃ s1, first.foldl (doO one) sta0 = s1 := ⟨_, rfl⟩
      have HS1 := Aside0.mk hs1
      rw [hs1] at HS HG
      clear hs1
      generalize wr = wq at HS ⊢
      go_loopw [30] (fun v30 w' => ∃ j : Nat, j ≤ after.length ∧ v30 = .int .i64 j ∧ Aside0 (SG ((after.take j).foldl (fun s o => doO (if o.f3 = true then two else one) s o) s1)) ∧ St w S w' [WP g mb ((after.take j).foldl (fun s o => doO (if o.f3 = true then two else one) s o) s1)]) (fun v30 _ => after.length - (intOf v30).toNat)
      case atStart => exact ⟨0, Nat.zero_le _, rfl, HG, HS⟩
      case round =>
        clear HS HG
        obtain ⟨j, hj, rfl, HG, HS⟩ := hrel
        by_cases hlt : j < after.length
        · have hltI : (j : Int) < (after.length : Int) := by omega
          obtain ⟨ad, rfl, i0, i1, i2, i3⟩ := at_O (hR wr HS.ext).2 j hlt
          have hnext : (after.take (j + 1)).foldl (fun s o => doO (if o.f3 = true then two else one) s o) s1 = doO (if after[j].f3 = true then two else one) ((after.take j).foldl (fun s o => doO (if o.f3 = true then two else one) s o) s1) after[j] := by rw [List.take_succ_eq_append_getElem hlt, List.foldl_append]; rfl
          obtain ⟨x, hx⟩ : ∃ x, after[j] = x := ⟨_, rfl⟩
          rw [hx] at i0 i1 i2 i3 hnext
          have HNX := Aside0.mk hnext
          clear hnext hx
          generalize (after.take j).foldl (fun s o => doO (if o.f3 = true then two else one) s o) s1 = st at HG HS HNX
          obtain ⟨x0, x1, x2, x3⟩ := x
          have HNX : Aside0 (_ = doO (if x3 = true then two else one) st ⟨x0, x1, x2, x3⟩) := HNX
          cases x3
          · have hnx2 : (if false = true then two else one) = one := rfl
            rw [hnx2] at HNX
            clear hnx2
            go_wp2_with (first
              | ((with_reducible refine gate_dst (N := 13) rfl ?_); refine ev_box ?hg (N := 13) ?hd (cs := [.int .i64 0, .int .i64 0, .bool false, .bool false]) (t := 39) HS ?hr ?_; (case hd => rfl); (case hg => rfl); (case hr => first | (go_simp; done) | (go_simp; rfl)); intro ob w2 HS_ hg_ob; clear HS; have HS := HS_; clear HS_; clear i0 i1 i2 i3)
              | ((with_reducible refine gate_ (.store 39 (.tmp 13) (.tmp 33)) rfl ?_); refine ev_store rfl rfl 39 (.tmp 13) (.tmp 33) rfl HS rfl rfl (seg := [.int .i64 x0, .int .i64 x1, .bool x2, .bool false]) rfl ?ht rfl ?hf ?_; (case ht => kernel_rfl); (case hf => first | (simp; done) | (simp [splice]; done)); intro w3 HS_; clear HS; have HS := HS_; clear HS_; have q_ob_0 : w3.cell? ⟨ob, 0, none⟩ = some (.int .i64 x0) := HS.cell 0; have q_ob_1 : w3.cell? ⟨ob, 1, none⟩ = some (.int .i64 x1) := HS.cell 1; have q_ob_2 : w3.cell? ⟨ob, 2, none⟩ = some (.bool x2) := HS.cell 2; have q_ob_3 : w3.cell? ⟨ob, 3, none⟩ = some (.bool false) := HS.cell 3))
            refine ((do_fun g mb st HG.out ⟨x0, x1, x2, false⟩ one).call (F := [HP.obj ob 39 [.int .i64 x0, .int .i64 x1, .bool x2, .bool false]]) (HS.mv 1) (fun _ _ _ _ => trivial)).mono ?_
            rintro e_ w4 ⟨rfl, HS4⟩
            clear HS q_ob_0 q_ob_1 q_ob_2 q_ob_3
            go_wp2
            go_roundw
            case rel => exact ⟨j + 1, by omega, by go_num, ⟨by rw [HNX.out]; exact sg_do one st HG.out _ (opK_lt _) _ (opX_good _)⟩, by rw [HNX.out]; exact HS4.out 1⟩
            case measure => simp [intOf]; omega
          · have hnx2 : (if true = true then two else one) = two := rfl
            rw [hnx2] at HNX
            clear hnx2
            go_wp2_with (first
              | ((with_reducible refine gate_dst (N := 13) rfl ?_); refine ev_box ?hg (N := 13) ?hd (cs := [.int .i64 0, .int .i64 0, .bool false, .bool false]) (t := 39) HS ?hr ?_; (case hd => rfl); (case hg => rfl); (case hr => first | (go_simp; done) | (go_simp; rfl)); intro ob w2 HS_ hg_ob; clear HS; have HS := HS_; clear HS_; clear i0 i1 i2 i3)
              | ((with_reducible refine gate_ (.store 39 (.tmp 13) (.tmp 33)) rfl ?_); refine ev_store rfl rfl 39 (.tmp 13) (.tmp 33) rfl HS rfl rfl (seg := [.int .i64 x0, .int .i64 x1, .bool x2, .bool true]) rfl ?ht rfl ?hf ?_; (case ht => kernel_rfl); (case hf => first | (simp; done) | (simp [splice]; done)); intro w3 HS_; clear HS; have HS := HS_; clear HS_; have q_ob_0 : w3.cell? ⟨ob, 0, none⟩ = some (.int .i64 x0) := HS.cell 0; have q_ob_1 : w3.cell? ⟨ob, 1, none⟩ = some (.int .i64 x1) := HS.cell 1; have q_ob_2 : w3.cell? ⟨ob, 2, none⟩ = some (.bool x2) := HS.cell 2; have q_ob_3 : w3.cell? ⟨ob, 3, none⟩ = some (.bool true) := HS.cell 3))
            refine ((do_fun g mb st HG.out ⟨x0, x1, x2, true⟩ two).call (F := [HP.obj ob 39 [.int .i64 x0, .int .i64 x1, .bool x2, .bool true]]) (HS.mv 1) (fun _ _ _ _ => trivial)).mono ?_
            rintro e_ w4 ⟨rfl, HS4⟩
            clear HS q_ob_0 q_ob_1 q_ob_2 q_ob_3
            go_wp2
            go_roundw
            case rel => exact ⟨j + 1, by omega, by go_num, ⟨by rw [HNX.out]; exact sg_do two st HG.out _ (opK_lt _) _ (opX_good _)⟩, by rw [HNX.out]; exact HS4.out 1⟩
            case measure => simp [intOf]; omega
        · have hjj : j = after.length := by omega
          subst hjj
          rw [List.take_length] at HS
          go_wp2
          go_ret
          refine ⟨_, rfl, St.ex_in g (St.ex_in mb (St.and_in rfl ?_))⟩
          unfold playL
          rw [HS1.out]
          exact HS
end Go.Proofs.Ytkhbmamcbhjafaa.Keys
